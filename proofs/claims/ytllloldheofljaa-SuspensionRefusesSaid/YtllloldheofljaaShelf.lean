/-
  DERIVED: THE SHELF's CONTRACTS AT THIS DUMP, IN PLAIN WORDS (tools/lay-plain.mjs out of 'YtllloldheofljaaShelf.lean', which tools/lay-shelf.mjs wrote): THE SAME DECLARATIONS UNDER THE SAME NAMES: 'import', 'namespace', 'open', 'def', 'theorem' AND NOTHING ELSE: no command of the shelf's: FOR A HAND-IN. Each laying: the table of numbers ('.._ren') and one theorem, a field a fact of the dump's own or the kernel's comparison; each contract: ONE APPLICATION.
-/
import Derived.Shelf.Small.Bits
import Derived.Shelf.Small.Wraps
import Derived.Shelf.Strconv.Itoa0
import Derived.Shelf.Sort.Plain
import Derived.Shelf.GgClosure.StringsIndexFunc
import Derived.Ground.GgwProg
import Derived.Shelf.GgClosure.StringsIndexFuncTop
import Derived.Shelf.GgClosure.StringsRunes
import Derived.Shelf.Strings.FuncGrows
import Derived.Ground.Names2Prog
import Derived.Shelf.Slices.SearchI
import Derived.Shelf.Slices.In.SortNone
import Derived.Test.YtllloldheofljaaProg
import Derived.Shelf.SlSortCmp.WholeK
import Derived.Shelf.SlSortCmp.NoneTotal
import Derived.Shelf.SlGeneric
import Derived.Ground.SlsfProg
namespace Go.Proofs
open Go.Shelf
def Try.lays122_ren : Go.Shelf.Ren := ⟨fun | 122 => 93 | 215 => 124 | n => n, fun | 3 => 3 | 4 => 4 | n => n, fun | n => n⟩
theorem Try.lays122 : Go.Proofs.Lays.n122 Try.prog Try.lays122_ren := {
  mixed := by kernel_rfl
  f122 := Try.func93.trans (congrArg some (by kernel_rfl))
  f215 := Try.func124.trans (congrArg some (by kernel_rfl))
  t3 := Try.underlying3
  a3 := Try.isAgg3
  z3 := Try.sizeOf3
  v3 := Try.zeroValue3
  t4 := Try.underlying4
  a4 := Try.isAgg4
  z4 := Try.sizeOf4
  v4 := Try.zeroValue4 }
def Try.lays189_ren : Go.Shelf.Ren := ⟨fun | 189 => 133 | 125 => 123 | 257 => 153 | 128 => 149 | 129 => 150 | 294 => 164 | 295 => 165 | 296 => 166 | 297 => 167 | 298 => 168 | 299 => 169 | 216 => 170 | 300 => 171 | 301 => 172 | 328 => 174 | 329 => 158 | 330 => 159 | 331 => 175 | 332 => 176 | 215 => 124 | 343 => 177 | n => n, fun | 28 => 22 | 3 => 3 | 46 => 160 | 0 => 0 | 51 => 181 | 53 => 183 | 4 => 4 | 183 => 175 | 182 => 174 | 131 => 100 | 5 => 5 | 9 => 9 | 218 => 193 | 222 => 197 | 228 => 205 | 229 => 206 | n => n, fun | n => n⟩
theorem Try.lays189 : Go.Proofs.Lays.n189 Try.prog Try.lays189_ren := {
  mixed := by kernel_rfl
  f125 := Try.func123.trans (congrArg some (by kernel_rfl))
  f128 := Try.func149.trans (congrArg some (by kernel_rfl))
  f129 := Try.func150.trans (congrArg some (by kernel_rfl))
  f189 := Try.func133.trans (congrArg some (by kernel_rfl))
  f215 := Try.func124.trans (congrArg some (by kernel_rfl))
  f216 := Try.func170.trans (congrArg some (by kernel_rfl))
  f257 := Try.func153.trans (congrArg some (by kernel_rfl))
  f294 := Try.func164.trans (congrArg some (by kernel_rfl))
  f295 := Try.func165.trans (congrArg some (by kernel_rfl))
  f296 := Try.func166.trans (congrArg some (by kernel_rfl))
  f297 := Try.func167.trans (congrArg some (by kernel_rfl))
  f298 := Try.func168.trans (congrArg some (by kernel_rfl))
  f299 := Try.func169.trans (congrArg some (by kernel_rfl))
  f300 := Try.func171.trans (congrArg some (by kernel_rfl))
  f301 := Try.func172.trans (congrArg some (by kernel_rfl))
  f328 := Try.func174.trans (congrArg some (by kernel_rfl))
  f329 := Try.func158.trans (congrArg some (by kernel_rfl))
  f330 := Try.func159.trans (congrArg some (by kernel_rfl))
  f331 := Try.func175.trans (congrArg some (by kernel_rfl))
  f332 := Try.func176.trans (congrArg some (by kernel_rfl))
  f343 := Try.func177.trans (congrArg some (by kernel_rfl))
  t0 := Try.underlying0
  a0 := Try.isAgg0
  z0 := Try.sizeOf0
  v0 := Try.zeroValue0
  t3 := Try.underlying3
  a3 := Try.isAgg3
  z3 := Try.sizeOf3
  v3 := Try.zeroValue3
  t4 := Try.underlying4
  a4 := Try.isAgg4
  z4 := Try.sizeOf4
  v4 := Try.zeroValue4
  t5 := Try.underlying5
  a5 := Try.isAgg5
  z5 := Try.sizeOf5
  v5 := Try.zeroValue5
  t9 := Try.underlying9
  a9 := Try.isAgg9
  z9 := Try.sizeOf9
  v9 := Try.zeroValue9
  t28 := Try.underlying22
  a28 := Try.isAgg22
  z28 := Try.sizeOf22
  v28 := Try.zeroValue22
  t46 := Try.underlying160
  a46 := Try.isAgg160
  z46 := Try.sizeOf160
  v46 := Try.zeroValue160
  t51 := Try.underlying181
  a51 := Try.isAgg181
  z51 := Try.sizeOf181
  v51 := Try.zeroValue181
  t53 := Try.underlying183
  a53 := Try.isAgg183
  z53 := Try.sizeOf183
  v53 := Try.zeroValue183
  t131 := Try.underlying100
  a131 := Try.isAgg100
  z131 := Try.sizeOf100
  v131 := Try.zeroValue100
  t182 := Try.underlying174
  a182 := Try.isAgg174
  z182 := Try.sizeOf174
  v182 := Try.zeroValue174
  t183 := Try.underlying175
  a183 := Try.isAgg175
  z183 := Try.sizeOf175
  v183 := Try.zeroValue175
  t218 := Try.underlying193
  a218 := Try.isAgg193
  z218 := Try.sizeOf193
  v218 := Try.zeroValue193
  t222 := Try.underlying197
  a222 := Try.isAgg197
  z222 := Try.sizeOf197
  v222 := Try.zeroValue197
  t228 := Try.underlying205
  a228 := Try.isAgg205
  z228 := Try.sizeOf205
  v228 := Try.zeroValue205
  t229 := Try.underlying206
  a229 := Try.isAgg206
  z229 := Try.sizeOf206
  v229 := Try.zeroValue206 }
def Try.laysGw17_ren : Go.Shelf.Ren := ⟨fun | 17 => 129 | 15 => 152 | 20 => 163 | n => n, fun | 9 => 9 | 23 => 165 | 4 => 4 | 3 => 3 | 0 => 0 | 21 => 21 | n => n, fun | n => n⟩
theorem Try.laysGw17 : Go.Proofs.LaysGw.n17 Try.prog Try.laysGw17_ren := {
  mixed := by kernel_rfl
  f15 := Try.func152.trans (congrArg some (by kernel_rfl))
  f17 := Try.func129.trans (congrArg some (by kernel_rfl))
  f20 := Try.func163.trans (congrArg some (by kernel_rfl))
  t0 := Try.underlying0
  a0 := Try.isAgg0
  z0 := Try.sizeOf0
  v0 := Try.zeroValue0
  i0 := by kernel_rfl
  t3 := Try.underlying3
  a3 := Try.isAgg3
  z3 := Try.sizeOf3
  v3 := Try.zeroValue3
  i3 := by kernel_rfl
  t4 := Try.underlying4
  a4 := Try.isAgg4
  z4 := Try.sizeOf4
  v4 := Try.zeroValue4
  i4 := by kernel_rfl
  t9 := Try.underlying9
  a9 := Try.isAgg9
  z9 := Try.sizeOf9
  v9 := Try.zeroValue9
  i9 := by kernel_rfl
  t21 := Try.underlying21
  a21 := Try.isAgg21
  z21 := Try.sizeOf21
  v21 := Try.zeroValue21
  i21 := by kernel_rfl
  t23 := Try.underlying165
  a23 := Try.isAgg165
  z23 := Try.sizeOf165
  v23 := Try.zeroValue165
  i23 := by kernel_rfl }
def Try.sortTaken_ren : Go.Shelf.Ren := ⟨fun | 6 => 90 | 15 => 123 | 14 => 122 | 28 => 149 | 29 => 150 | 20 => 141 | 21 => 142 | 22 => 143 | 23 => 144 | 24 => 145 | 25 => 146 | 26 => 147 | 27 => 148 | 46 => 157 | 47 => 158 | 48 => 159 | 49 => 160 | 50 => 161 | 57 => 173 | n => n, fun | 22 => 79 | 24 => 132 | 25 => 134 | 3 => 3 | 39 => 160 | 0 => 0 | 53 => 181 | 55 => 183 | 4 => 4 | 46 => 175 | 45 => 174 | 50 => 100 | 5 => 5 | 9 => 9 | 66 => 193 | 70 => 197 | 76 => 205 | 77 => 206 | n => n, fun | n => n⟩
theorem Try.sortTaken : Go.Proofs.SlLaysF0.n6 Try.prog Try.sortTaken_ren := {
  mixed := by kernel_rfl
  f6 := ⟨Try.f90.name, by decide, Try.func90.trans (congrArg some (by kernel_rfl))⟩
  f14 := ⟨Try.f122.name, by decide, Try.func122.trans (congrArg some (by kernel_rfl))⟩
  f15 := Try.func123.trans (congrArg some (by kernel_rfl))
  f20 := ⟨Try.f141.name, by decide, Try.func141.trans (congrArg some (by kernel_rfl))⟩
  f21 := ⟨Try.f142.name, by decide, Try.func142.trans (congrArg some (by kernel_rfl))⟩
  f22 := ⟨Try.f143.name, by decide, Try.func143.trans (congrArg some (by kernel_rfl))⟩
  f23 := ⟨Try.f144.name, by decide, Try.func144.trans (congrArg some (by kernel_rfl))⟩
  f24 := ⟨Try.f145.name, by decide, Try.func145.trans (congrArg some (by kernel_rfl))⟩
  f25 := ⟨Try.f146.name, by decide, Try.func146.trans (congrArg some (by kernel_rfl))⟩
  f26 := ⟨Try.f147.name, by decide, Try.func147.trans (congrArg some (by kernel_rfl))⟩
  f27 := ⟨Try.f148.name, by decide, Try.func148.trans (congrArg some (by kernel_rfl))⟩
  f28 := Try.func149.trans (congrArg some (by kernel_rfl))
  f29 := Try.func150.trans (congrArg some (by kernel_rfl))
  f46 := ⟨Try.f157.name, by decide, Try.func157.trans (congrArg some (by kernel_rfl))⟩
  f47 := Try.func158.trans (congrArg some (by kernel_rfl))
  f48 := Try.func159.trans (congrArg some (by kernel_rfl))
  f49 := ⟨Try.f160.name, by decide, Try.func160.trans (congrArg some (by kernel_rfl))⟩
  f50 := ⟨Try.f161.name, by decide, Try.func161.trans (congrArg some (by kernel_rfl))⟩
  f57 := ⟨Try.f173.name, by decide, Try.func173.trans (congrArg some (by kernel_rfl))⟩
  t0 := Try.underlying0
  a0 := Try.isAgg0
  z0 := Try.sizeOf0
  v0 := Try.zeroValue0
  t3 := Try.underlying3
  a3 := Try.isAgg3
  z3 := Try.sizeOf3
  v3 := Try.zeroValue3
  t4 := Try.underlying4
  a4 := Try.isAgg4
  z4 := Try.sizeOf4
  v4 := Try.zeroValue4
  t5 := Try.underlying5
  a5 := Try.isAgg5
  z5 := Try.sizeOf5
  v5 := Try.zeroValue5
  t9 := Try.underlying9
  a9 := Try.isAgg9
  z9 := Try.sizeOf9
  v9 := Try.zeroValue9
  t22 := Try.underlying79
  a22 := Try.isAgg79
  z22 := Try.sizeOf79
  v22 := Try.zeroValue79
  t25 := Try.underlying134
  a25 := Try.isAgg134
  z25 := Try.sizeOf134
  v25 := Try.zeroValue134
  t39 := Try.underlying160
  a39 := Try.isAgg160
  z39 := Try.sizeOf160
  v39 := Try.zeroValue160
  t45 := Try.underlying174
  a45 := Try.isAgg174
  z45 := Try.sizeOf174
  v45 := Try.zeroValue174
  t46 := Try.underlying175
  a46 := Try.isAgg175
  z46 := Try.sizeOf175
  v46 := Try.zeroValue175
  t50 := Try.underlying100
  a50 := Try.isAgg100
  z50 := Try.sizeOf100
  v50 := Try.zeroValue100
  t53 := Try.underlying181
  a53 := Try.isAgg181
  z53 := Try.sizeOf181
  v53 := Try.zeroValue181
  t55 := Try.underlying183
  a55 := Try.isAgg183
  z55 := Try.sizeOf183
  v55 := Try.zeroValue183
  t66 := Try.underlying193
  a66 := Try.isAgg193
  z66 := Try.sizeOf193
  v66 := Try.zeroValue193
  t70 := Try.underlying197
  a70 := Try.isAgg197
  z70 := Try.sizeOf197
  v70 := Try.zeroValue197
  t76 := Try.underlying205
  a76 := Try.isAgg205
  z76 := Try.sizeOf205
  v76 := Try.zeroValue205
  t77 := Try.underlying206
  a77 := Try.isAgg206
  z77 := Try.sizeOf206
  v77 := Try.zeroValue206 }
open Go.RowKit in
/-- cmp.Compare at int: "Compare returns -1 if x is less than y, 0 if x equals y, +1 if x is greater than y.": IT RETURNS 'Lib.compareInt x y'; the world is as it was. (LAID: no walk: one application.) -/
theorem Try.cmp_Compare_int (x y : Int) (w : World) :
    Calls Try.prog 93 #[.int .i64 x, .int .i64 y] w fun e w' => e = .returned (.int .i64 (Lib.compareInt x y)) ∧ w' = w := Any.cmp_Compare_int Try.lays122 x y w
open Go.Sort Go.RowKit in
theorem Try.slices_Sort_int (blk off cap : Nat) (zs : List Int) (w : World) (hH : Holds (Value.int .i64) w blk off zs.toArray) (hblk : blk < w.heap.size) (hsz : zs.length < 4611686018427387904) :
    Calls Try.prog 133 #[.slice (some ⟨blk, off, none⟩) zs.length cap] w fun e w' =>
      e = .returned (.tuple #[]) ∧ ∃ n os, w' = grow (putRow (Value.int .i64) (Sort.ahead w n) blk off (zs.mergeSort fun x y => decide (x ≤ y)).toArray) os := Any.slices_Sort_int Try.lays189 blk off cap zs w hH hblk hsz
open Go.RowKit Go.Lib in
theorem Try.strings_ContainsFunc (g : Nat) (lb : Array Value) (eg : ∀ args w, (callFunc g args).run Try.prog w = .ok (.enter g args) w) (p : Nat → Bool) (s : ByteArray) (w : World) (hp : PredAt Try.prog g lb encR p w) :
    Calls Try.prog 129 #[.string s, .func (.func g) #[] lb] w fun e w' => e = .returned (.bool (decide (0 ≤ Lib.idxFunc p true s))) ∧ Below w.heap.size w w' := Any.strings_ContainsFunc Try.laysGw17 g lb eg p s w hp
open Go.RowKit Go.Sort in
/-- .. and plain. (LAID: no walk: one application.) -/
theorem Try.slices_Sort_int_none (p : Option Addr) (cap : Nat) (w : World) :
    Calls Try.prog 133 #[.slice p 0 cap] w fun e w' => e = .returned (.tuple #[]) ∧ w' = w := Any.slices_Sort_int_none Try.lays189 p cap w
end Go.Proofs
