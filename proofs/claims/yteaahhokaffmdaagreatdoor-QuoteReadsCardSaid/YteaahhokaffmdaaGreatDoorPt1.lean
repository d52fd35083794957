/- What the laws lean on. -/
import Derived.WalkKit
import Derived.ProofKit
import Derived.OpenShut
import Derived.Lib.Hide
import Derived.WalkLawsBesides
import Derived.WalkSpells
import Derived.BigQuiet
import Derived.Deep.QuietTactic
import Derived.Deep.MidRow
import Derived.Deep.WholeRow
import Derived.Test.YteaahhokaffmdaaGreatDoorRows
import Derived.BigRegion
import Derived.Deep.RegionHeld3
import Derived.Deep.DeepCutAuto
import Derived.Deep.CutBlock
import Derived.Laws.BitsAllLaws
import Derived.Deep.Slices
import Derived.Orders
import Derived.RegionTactic
import Derived.Deep.RegionWith
import Derived.Laws.AppendOwn
import Derived.OwnWalk
import Derived.Deep.RegionLaw
import Derived.Deep.DrawnRows
import Derived.StillTailTactics
namespace Go.Proofs.YteaahhokaffmdaaGreatDoor
set_option linter.unusedVariables false
set_option linter.unusedSimpArgs false
theorem z1 {α : Type} {x y : α} {l : List α} : (x :: l).set 0 y = y :: l := rfl
theorem z2 {α : Type} {x y : α} {l : List α} {n : Nat} : (x :: l).set (n + 1) y = x :: l.set n y := rfl
theorem z3 {α : Type} {l : List α} {i : Nat} (h : i < l.toArray.size) : l.toArray[i] = l[i]'(by simpa using h) := List.getElem_toArray h
theorem z4 {α : Type} {x : α} {l : List α} {n : Nat} (h : n + 1 < (x :: l).length) : (x :: l)[n + 1] = l[n]'(by simpa using h) := rfl
theorem z5 {α : Type} {x : α} {l : List α} (h : 0 < (x :: l).length) : (x :: l)[0] = x := rfl
theorem z6 {α : Type} {l : List α} {i : Nat} {x : α} : l.toArray.setIfInBounds i x = (l.set i x).toArray := List.setIfInBounds_toArray ..
theorem z7 {α : Type} {x : α} {l m : List α} : (x :: l) ++ m = x :: (l ++ m) := rfl
theorem z8 {α : Type} {l : List α} : [] ++ l = l := rfl
section
section
open Go.ChangeShapes Go.WideShapes Go.ChangeAt Go.RowKit
def RetW (v : Value) (w : World) (e : Ending) (w' : World) : Prop := e = .returned v ∧ w = w'
def RetB (v : Value) (w : World) (e : Ending) (w' : World) : Prop := e = .returned v ∧ Below w.heap.size w w'
theorem bnext {w w1 w2 : World} (h : Below w.heap.size w w1) (k : Below w1.heap.size w1 w2) : Below w.heap.size w w2 := h.trans (k.mono h.size)
theorem bal {w w1 : World} (h : Below w.heap.size w w1) (o : Obj) : Below w.heap.size w (w1.alloc o) := h.alloc h.size o
theorem bal0 (w : World) (o : Obj) : Below w.heap.size w (w.alloc o) := (Below.refl _ _).alloc (Nat.le_refl _) o
theorem vint {k : IntKind} {a b : Int} (h : a = b) : Value.int k a = Value.int k b := by rw [h]
theorem ret_int {k : IntKind} {a b : Int} (h : a = b) : Ending.returned (.int k a) = .returned (.int k b) := by rw [h]
theorem ret_bool {a b : Bool} (h : a = b) : Ending.returned (.bool a) = .returned (.bool b) := by rw [h]
end
section
open Go.RowKit
structure BlkAt (w : World) (b : Nat) (cs : Array Value) (t : TypeId) : Prop where
 blk : w.heap[b]? = some (.cells cs t (0, 0))
section
variable {w w' : World} {b g B : Nat} {cs : Array Value} {t : TypeId}
theorem BlkAt.lt (h : BlkAt w b cs t) : b < w.heap.size := (Array.getElem?_eq_some_iff.1 h.blk).1
theorem BlkAt.next (h : BlkAt w b cs t) (hb : Below w.heap.size w w') : BlkAt w' b cs t := ⟨(hb.block _ h.lt).trans h.blk⟩
theorem BlkAt.under (h : BlkAt w b cs t) (hb : Below B w w') (hB : b < B) : BlkAt w' b cs t := ⟨(hb.block _ hB).trans h.blk⟩
theorem BlkAt.new (w : World) (cs : Array Value) (t : TypeId) : BlkAt (w.alloc (.cells cs t)) w.heap.size cs t := ⟨heap_alloc_new w _⟩
theorem BlkAt.newAt (w : World) (cs : Array Value) (t : TypeId) (hg : w.heap.size = g) : BlkAt (w.alloc (.cells cs t)) g cs t := by subst hg; exact ⟨heap_alloc_new w _⟩
theorem BlkAt.al (h : BlkAt w b cs t) (o : Obj) : BlkAt (w.alloc o) b cs t := h.next (bal0 w o)
theorem BlkAt.drew (h : BlkAt w b cs t) : BlkAt w.drew b cs t := ⟨h.blk⟩
theorem BlkAt.drewN (h : BlkAt w b cs t) (n : Nat) : BlkAt (w.drewN n) b cs t := ⟨h.blk⟩
theorem BlkAt.cell (h : BlkAt w b cs t) {i : Nat} {v : Value} (hi : cs[i]? = some v) : w.cell? ⟨b, i, none⟩ = some v := (cell_of_row w b i cs t (0, 0) h.blk).trans hi
theorem BlkAt.fz (h : BlkAt w b cs t) (i : Nat) : w.frozen? ⟨b, i, none⟩ = false := frozen_of_row w b i cs t h.blk
theorem BlkAt.set (h : BlkAt w b cs t) (cs' : Array Value) : BlkAt (w.setRow b cs') b cs' t := ⟨setRow_heap w b cs cs' t (0, 0) h.blk⟩
theorem BlkAt.setFar (h : BlkAt w b cs t) (cs' : Array Value) (hn : b ≠ g) : BlkAt (w.setRow g cs') b cs t := ⟨(setRow_other w g b cs' hn).trans h.blk⟩
theorem BlkAt.cellSet (h : BlkAt w b cs t) (i : Nat) (v : Value) : BlkAt (w.setCell ⟨b, i, none⟩ v) b (cs.setIfInBounds i v) t := ⟨heap_setCell_same w b i cs t v h.blk⟩
theorem BlkAt.cellFar (h : BlkAt w b cs t) (i : Nat) (v : Value) (hn : b ≠ g) : BlkAt (w.setCell ⟨g, i, none⟩ v) b cs t := ⟨(heap_setCell_other w ⟨g, i, none⟩ b v hn).trans h.blk⟩
theorem BlkAt.is (h : BlkAt w b cs t) {cs' : Array Value} (e : cs = cs') : BlkAt w b cs' t := e ▸ h
theorem BlkAt.range (h : BlkAt w b cs t) : w.rangeAt b 0 cs.toList := fun j v hv => by
 rw [Nat.zero_add]
 exact h.cell (by simpa using hv)
theorem setRow_size (w : World) (g : Nat) (cs : Array Value) : (w.setRow g cs).heap.size = w.heap.size := by simp [World.setRow]
theorem Below.setRow {a w : World} {B g : Nat} (h : Below B a w) (hB : B ≤ g) (cs : Array Value) : Below B a (w.setRow g cs) :=
 ⟨h.os, h.tape, h.output, by rw [setRow_size]; exact h.size, fun k hk => (setRow_other w g k cs (by omega)).trans (h.block k hk)⟩
end
structure RowT (P : Program) (T : TypeId) (n : Nat) : Prop where
 row : ∃ d, P.underlying T = some d ∧ (match d with | .struct _ | .array _ _ => true | _ => false) = true
 size : (P.info? T).map (·.size) = some n
structure RowV (P : Program) (T : TypeId) (cs : Array Value) : Prop where
 row : RowT P T cs.size
 one : cs.all (·.oneCell') = true
section
variable {P : Program} {ops : Array Oper} {rest : List Oper} {o : Oper} {a : Act} {w : World} {Q : Exit → Act → World → Prop}
theorem wpl_load (hgd : o.guard = none) (T : TypeId) (x : Operand) (ho : o.op = .load T x) (g : Nat) (hx : a.eval x = .pointer (some ⟨g, 0, none⟩)) {t : TypeId} {cs : Array Value} (hb : BlkAt w g cs t) (hr : RowV P T cs)
  (h : wpList P ops Q rest (a.put o.dst (.agg cs)) w) : wpList P ops Q (o :: rest) a w := by
 obtain ⟨d, hu, hd⟩ := hr.row.row
 exact wpList_load_row hgd T x ho g hx t cs (0, 0) d hb.blk hu (by cases d <;> simp_all) hr.row.size h
theorem wpl_store (hgd : o.guard = none) (T : TypeId) (x y : Operand) (ho : o.op = .store T x y) (g : Nat) (cells : Array Value) (hx : a.eval x = .pointer (some ⟨g, 0, none⟩)) (hy : a.eval y = .agg cells) {t : TypeId} {old : Array Value} (hb : BlkAt w g old t) (hr : RowV P T cells) (hs : old.size = cells.size)
  (h : wpList P ops Q rest (a.put o.dst undef) (w.setRow g cells)) : wpList P ops Q (o :: rest) a w :=
 wpList_store_row hgd T x y ho g cells hx hy t old hb.blk hr.row.size hs hr.one h
theorem wpl_store_new (hgd : o.guard = none) (T : TypeId) (x y : Operand) (ho : o.op = .store T x y) {w0 : World} (cells : Array Value) {old : Array Value} {t : TypeId} (hx : a.eval x = .pointer (some ⟨w0.heap.size, 0, none⟩)) (hy : a.eval y = .agg cells) (hr : RowV P T cells) (hs : old.size = cells.size)
  (h : wpList P ops Q rest (a.put o.dst undef) (w0.alloc (.cells cells t))) : wpList P ops Q (o :: rest) a (w0.alloc (.cells old t)) := by
 refine wpl_store hgd T x y ho w0.heap.size cells hx hy (BlkAt.new w0 old t) hr hs ?_
 rw [World.setRow_alloc_new]
 exact h
theorem run_loadVar_blk {g : Nat} {T t : TypeId} {cs : Array Value} (hb : BlkAt w g cs t) (hr : RowV P T cs) : (loadVar T ⟨g, 0, none⟩).run P w = .ok (.agg cs) w := by
 obtain ⟨d, hu, hd⟩ := hr.row.row
 exact run_loadVar_row w g t T cs (0, 0) d hb.blk hu (by cases d <;> simp_all) hr.row.size
theorem res_c {fn : Func} {p : Tmp} {T t : TypeId} (h : fn.results = #[.cell p T]) {tmps : Array Value} {g : Nat} {cs : Array Value} (hp : tmps.getD p undef = .pointer (some ⟨g, 0, none⟩)) (hb : BlkAt w g cs t) (hr : RowV P T cs) :
  (results fn tmps).run P w = .ok (.agg cs) w := by
 have hp' : tmps[p]?.getD undef = .pointer (some ⟨g, 0, none⟩) := by simpa using hp
 simp [results, h, hp', asAddr, run_loadVar_blk hb hr]
theorem res_cs {fn : Func} {p q : Tmp} {T t : TypeId} (h : fn.results = #[.cell p T, .tmp q]) {tmps : Array Value} {g : Nat} {cs : Array Value} {v : Value} (hp : tmps.getD p undef = .pointer (some ⟨g, 0, none⟩)) (hq : tmps.getD q undef = v) (hb : BlkAt w g cs t) (hr : RowV P T cs) :
  (results fn tmps).run P w = .ok (.tuple #[.agg cs, v]) w := by
 have hp' : tmps[p]?.getD undef = .pointer (some ⟨g, 0, none⟩) := by simpa using hp
 have hq' : tmps[q]?.getD undef = v := by simpa using hq
 simp [results, h, hp', hq', asAddr, run_loadVar_blk hb hr]
theorem res_cc {fn : Func} {p q : Tmp} {T t U u : TypeId} (h : fn.results = #[.cell p T, .cell q U]) {tmps : Array Value} {g k : Nat} {cs ds : Array Value} (hp : tmps.getD p undef = .pointer (some ⟨g, 0, none⟩)) (hq : tmps.getD q undef = .pointer (some ⟨k, 0, none⟩)) (hb : BlkAt w g cs t) (hr : RowV P T cs) (hc : BlkAt w k ds u) (hs : RowV P U ds) :
  (results fn tmps).run P w = .ok (.tuple #[.agg cs, .agg ds]) w := by
 have hp' : tmps[p]?.getD undef = .pointer (some ⟨g, 0, none⟩) := by simpa using hp
 have hq' : tmps[q]?.getD undef = .pointer (some ⟨k, 0, none⟩) := by simpa using hq
 simp [results, h, hp', hq', asAddr, run_loadVar_blk hb hr, run_loadVar_blk hc hs]
theorem res_ccs {fn : Func} {p q r : Tmp} {T t U u : TypeId} (h : fn.results = #[.cell p T, .cell q U, .tmp r]) {tmps : Array Value} {g k : Nat} {cs ds : Array Value} {v : Value} (hp : tmps.getD p undef = .pointer (some ⟨g, 0, none⟩)) (hq : tmps.getD q undef = .pointer (some ⟨k, 0, none⟩)) (hv : tmps.getD r undef = v) (hb : BlkAt w g cs t) (hr : RowV P T cs) (hc : BlkAt w k ds u) (hs : RowV P U ds) :
  (results fn tmps).run P w = .ok (.tuple #[.agg cs, .agg ds, v]) w := by
 have hp' : tmps[p]?.getD undef = .pointer (some ⟨g, 0, none⟩) := by simpa using hp
 have hq' : tmps[q]?.getD undef = .pointer (some ⟨k, 0, none⟩) := by simpa using hq
 have hv' : tmps[r]?.getD undef = v := by simpa using hv
 simp [results, h, hp', hq', hv', asAddr, run_loadVar_blk hb hr, run_loadVar_blk hc hs]
end
end
end
section
section
section
open Go.RowKit
def offB (n : Int) : Bool := decide (-900 ≤ n ∧ n ≤ 900)
def lowB (c : UInt8) : Bool := decide (97 ≤ c.toNat ∧ c.toNat ≤ 122)
def digB (c : UInt8) : Bool := decide (48 ≤ c.toNat ∧ c.toNat ≤ 57)
def nameChars (l : List UInt8) : Bool := l.all fun c => lowB c || digB c
def nameB (l : List UInt8) : Bool := decide (1 ≤ l.length) && decide (l.length ≤ 16) && (match l with | c :: _ => lowB c | [] => false) && nameChars l
def chkFrom (last : Int) : List (Int × Int) → Bool
 | [] => true
 | (a, o) :: r => if a ≤ last ∨ 105190559 < a ∨ offB o = false then false else chkFrom a r
structure ZN where
 name : ByteArray
 off : Int
 cs : List (Int × Int)
def ZN.ok (z : ZN) : Bool := nameB z.name.data.toList && decide (z.cs.length ≤ 400) && offB z.off && chkFrom (-1) z.cs
structure ZAt (w : World) (z : ZN) (A : Option Addr) : Prop where
 nm : z.name.size ≤ maxLen
 ln : z.cs.length ≤ maxLen
 cells : ∀ k x, z.cs[k]? = some x → ∃ b o, A = some ⟨b, o, none⟩ ∧ b < w.heap.size ∧ w.cell? ⟨b, o + k*2, none⟩ = some (.int .i64 x.1) ∧ w.cell? ⟨b, o + k*2 + 1, none⟩ = some (.int .i64 x.2)
theorem ZAt.below {w w' : World} {z : ZN} {A : Option Addr} (h : ZAt w z A) (hb : Below w.heap.size w w') : ZAt w' z A :=
 ⟨h.nm, h.ln, fun k x hx => by
  obtain ⟨b, o, hA, hlt, h1, h2⟩ := h.cells k x hx
  exact ⟨b, o, hA, Nat.lt_of_lt_of_le hlt hb.size, (hb.cell (p := ⟨b, _, none⟩) hlt).trans h1, (hb.cell (p := ⟨b, _, none⟩) hlt).trans h2⟩⟩
end
end
section
open Go.RowKit
def lp (y : Int) : Int := if y % 4 = 0 ∧ y ≠ 2100 then 1 else 0
def daysY (y : Int) : Int := 365 + lp y
def lenM (y m : Int) : Int := if m = 2 then 28 + lp y else if m = 4 ∨ m = 6 ∨ m = 9 ∨ m = 11 then 30 else 31
def aheadM (y m : Int) : Int :=
  if m = 1 then 0 else if m = 2 then 31 else
  (if m = 3 then 59 else if m = 4 then 90 else if m = 5 then 120 else if m = 6 then 151 else if m = 7 then 181 else if m = 8 then 212 else
   if m = 9 then 243 else if m = 10 then 273 else if m = 11 then 304 else 334) + lp y
def ysI (y : Int) : Int := 365 * (y - 2000) + (y - 2000 + 3) / 4 - if y > 2100 then 1 else 0
theorem lp_bd (y : Int) : 0 ≤ lp y ∧ lp y ≤ 1 := by unfold lp; split <;> omega
theorem ys_succ (y : Int) (h : 2000 ≤ y) : ysI (y + 1) = ysI y + daysY y := by
 unfold ysI daysY lp
 split <;> split <;> split <;> omega
theorem ys_mono {a b : Int} (h : a ≤ b) : ysI a ≤ ysI b := by
 unfold ysI
 split <;> split <;> omega
theorem m12 {m : Int} (h1 : 1 ≤ m) (h2 : m ≤ 12) : m = 1 ∨ m = 2 ∨ m = 3 ∨ m = 4 ∨ m = 5 ∨ m = 6 ∨ m = 7 ∨ m = 8 ∨ m = 9 ∨ m = 10 ∨ m = 11 ∨ m = 12 := by omega
theorem ahead_succ (y : Int) {m : Int} (h1 : 1 ≤ m) (h2 : m < 12) : aheadM y (m + 1) = aheadM y m + lenM y m := by
 rcases m12 h1 (by omega) with rfl | rfl | rfl | rfl | rfl | rfl | rfl | rfl | rfl | rfl | rfl | rfl <;> simp [aheadM, lenM] <;> omega
theorem len_bd (y : Int) (m : Int) : 28 ≤ lenM y m ∧ lenM y m ≤ 31 := by
 have := lp_bd y
 unfold lenM
 split
 ·omega
 ·split <;> omega
theorem ahead_bd (y : Int) {m : Int} (h1 : 1 ≤ m) (h2 : m ≤ 12) : 0 ≤ aheadM y m ∧ aheadM y m + lenM y m ≤ daysY y := by
 have := lp_bd y
 rcases m12 h1 h2 with rfl | rfl | rfl | rfl | rfl | rfl | rfl | rfl | rfl | rfl | rfl | rfl <;> simp [aheadM, lenM, daysY] <;> omega
theorem ahead_mono (y : Int) {a b : Int} (h1 : 1 ≤ a) (h : a < b) (h2 : b ≤ 12) : aheadM y a + lenM y a ≤ aheadM y b := by
 have := lp_bd y
 rcases m12 h1 (by omega) with rfl | rfl | rfl | rfl | rfl | rfl | rfl | rfl | rfl | rfl | rfl | rfl <;>
  rcases m12 (m := b) (by omega) h2 with rfl | rfl | rfl | rfl | rfl | rfl | rfl | rfl | rfl | rfl | rfl | rfl <;> first | omega | (simp [aheadM, lenM] <;> omega)
structure CV (n y m d : Int) : Prop where
 y1 : 2000 ≤ y
 y2 : y ≤ 2199
 m1 : 1 ≤ m
 m2 : m ≤ 12
 d1 : 1 ≤ d
 d2 : d ≤ lenM y m
 eq : n = ysI y + aheadM y m + d - 1
theorem CV.year {n y m d : Int} (h : CV n y m d) : ysI y ≤ n ∧ n < ysI (y + 1) := by
 have h1 := ys_succ y h.y1
 have h2 := ahead_bd y h.m1 h.m2
 have := h.eq; have := h.d1; have := h.d2
 omega
theorem CV.bd {n y m d : Int} (h : CV n y m d) : 0 ≤ n ∧ n ≤ 73048 := by
 obtain ⟨h1, h2⟩ := h.year
 have h3 := ys_mono h.y1
 have h4 := ys_mono (show y + 1 ≤ 2200 by have := h.y2; omega)
 have e1 : ysI 2000 = 0 := by decide
 have e2 : ysI 2200 = 73049 := by decide
 omega
theorem cv_year (n : Int) (h1 : 0 ≤ n) (h2 : n ≤ 73048) : ∃ y, 2000 ≤ y ∧ y ≤ 2199 ∧ ysI y ≤ n ∧ n < ysI (y + 1) := by
  have : ∀ k : Nat, n < ysI (2000 + k) → ∃ y : Int, 2000 ≤ y ∧ y < 2000 + k ∧ ysI y ≤ n ∧ n < ysI (y + 1) := by
    intro k
    induction k with
    | zero => intro h; have : ysI 2000 = 0 := by decide
              simp at h; omega
    | succ k ih =>
      intro h
      by_cases hk : n < ysI (2000 + k)
      · obtain ⟨y, a, b, c, d⟩ := ih hk
        exact ⟨y, a, by omega, c, d⟩
      · exact ⟨2000 + k, by omega, by omega, by omega, by rw [show (2000 : Int) + k + 1 = 2000 + (k + 1 : Nat) by omega]; exact h⟩
  obtain ⟨y, a, b, c, d⟩ := this 200 (by have : ysI 2200 = 73049 := by decide
                                         simp; omega)
  exact ⟨y, a, by omega, c, d⟩
theorem cv_month (y q : Int) (h1 : 0 ≤ q) (h2 : q < daysY y) : ∃ m, 1 ≤ m ∧ m ≤ 12 ∧ aheadM y m ≤ q ∧ q < aheadM y m + lenM y m := by
 have hl := lp_bd y
 have e : ∀ m, aheadM y m = aheadM y m := fun _ => rfl
 unfold daysY at h2
 by_cases a1 : q < 31; exact ⟨1, by omega, by omega, by simp [aheadM]; omega, by simp [aheadM, lenM]; omega⟩
 by_cases a2 : q < 59 + lp y; exact ⟨2, by omega, by omega, by simp [aheadM]; omega, by simp [aheadM, lenM]; omega⟩
 by_cases a3 : q < 90 + lp y; exact ⟨3, by omega, by omega, by simp [aheadM]; omega, by simp [aheadM, lenM]; omega⟩
 by_cases a4 : q < 120 + lp y; exact ⟨4, by omega, by omega, by simp [aheadM]; omega, by simp [aheadM, lenM]; omega⟩
 by_cases a5 : q < 151 + lp y; exact ⟨5, by omega, by omega, by simp [aheadM]; omega, by simp [aheadM, lenM]; omega⟩
 by_cases a6 : q < 181 + lp y; exact ⟨6, by omega, by omega, by simp [aheadM]; omega, by simp [aheadM, lenM]; omega⟩
 by_cases a7 : q < 212 + lp y; exact ⟨7, by omega, by omega, by simp [aheadM]; omega, by simp [aheadM, lenM]; omega⟩
 by_cases a8 : q < 243 + lp y; exact ⟨8, by omega, by omega, by simp [aheadM]; omega, by simp [aheadM, lenM]; omega⟩
 by_cases a9 : q < 273 + lp y; exact ⟨9, by omega, by omega, by simp [aheadM]; omega, by simp [aheadM, lenM]; omega⟩
 by_cases a10 : q < 304 + lp y; exact ⟨10, by omega, by omega, by simp [aheadM]; omega, by simp [aheadM, lenM]; omega⟩
 by_cases a11 : q < 334 + lp y; exact ⟨11, by omega, by omega, by simp [aheadM]; omega, by simp [aheadM, lenM]; omega⟩
 exact ⟨12, by omega, by omega, by simp [aheadM]; omega, by simp [aheadM, lenM]; omega⟩
theorem cv_any (n : Int) (h1 : 0 ≤ n) (h2 : n ≤ 73048) : ∃ y m d, CV n y m d := by
 obtain ⟨y, a, b, c, d⟩ := cv_year n h1 h2
 rw [ys_succ y a] at d
 obtain ⟨m, m1, m2, m3, m4⟩ := cv_month y (n - ysI y) (by omega) (by omega)
 exact ⟨y, m, n - ysI y - aheadM y m + 1, a, b, m1, m2, by omega, by omega, by omega⟩
theorem month_guess (y q m : Int) (h1 : 1 ≤ m) (h2 : m ≤ 12) (h3 : aheadM y m ≤ q) (h4 : q < aheadM y m + lenM y m) :
  (1 + q / 31 = m ∧ (m = 12 ∨ q < aheadM y (m + 1))) ∨ (1 + q / 31 = m - 1 ∧ 2 ≤ m) := by
 have hl := lp_bd y
 rcases m12 h1 h2 with rfl | rfl | rfl | rfl | rfl | rfl | rfl | rfl | rfl | rfl | rfl | rfl <;> simp [aheadM, lenM] at h3 h4 ⊢ <;> omega
structure SC where
 period : Int
 nth : Int
 notice : Int
 settle : Int
 cutoff : Int
def SC.cells (s : SC) : Array Value := #[.int .i64 s.period, .int .i64 s.nth, .int .i64 s.notice, .int .i64 s.settle, .int .i64 s.cutoff]
def ruleOk (p n : Int) : Bool := if p = 1 then decide (n = 0) else if p = 2 then decide (0 ≤ n ∧ n ≤ 6) else if p = 3 then decide (n ≠ 0 ∧ -23 ≤ n ∧ n ≤ 23) else false
def rangesOk (s : SC) : Bool := decide (0 ≤ s.notice ∧ s.notice ≤ 60 ∧ 0 ≤ s.settle ∧ s.settle ≤ 60 ∧ 0 ≤ s.cutoff ∧ s.cutoff ≤ 1439)
def SC.ok (s : SC) : Bool := rangesOk s && ruleOk s.period s.nth
def cntF (p : Int → Bool) : Nat → Int → Int
 | 0, _ => 0
 | k + 1, a => cntF p k a + if p (a + k) = true then 1 else 0
def cnt (p : Int → Bool) (a b : Int) : Int := cntF p (b - a).toNat a
structure SU where
 key : ByteArray
 fund : ByteArray
 frm : Int
 til : Int
 known : Int
 void : Bool
structure MK where
 key : ByteArray
 known : Int
 void : Bool
def SU.mark (x : SU) : MK := ⟨x.key, x.known, x.void⟩
def knB (k : Int) : Bool := decide (1 ≤ k ∧ k ≤ 2147483647)
theorem knB_iff (k : Int) : knB k = true ↔ 1 ≤ k ∧ k ≤ 2147483647 := by simp [knB]
def nmB (s : ByteArray) : Bool := nameB s.data.toList
def spanB (x : SU) : Bool := decide (0 ≤ x.frm ∧ x.frm ≤ 73048) && (decide (x.til = 0) || decide (x.frm ≤ x.til ∧ x.til ≤ 73048))
def SU.ok (x : SU) : Bool := nmB x.key && knB x.known && (if x.void = true then decide (x.fund.toList = []) && decide (x.frm = 0 ∧ x.til = 0) else nmB x.fund && spanB x)
def MK.ok (m : MK) : Bool := decide (1 ≤ m.key.size ∧ m.key.size ≤ 64) && decide (m.known ≤ 2147483647)
def mksFrom : Int → List MK → Bool
 | _, [] => true
 | last, x :: r => x.ok && decide (last < x.known) && mksFrom x.known r
def mksB (l : List MK) : Bool := decide (l.length ≤ 4096) && mksFrom 0 l
theorem mksFrom_get : ∀ (l : List MK) (last : Int) (i : Nat) (x : MK), mksFrom last l = true → l[i]? = some x → x.ok = true ∧ last < x.known
 | [], _, i, x, _, h => by simp at h
 | y :: r, last, i, x, h, hx => by
  simp only [mksFrom, Bool.and_eq_true, decide_eq_true_eq] at h
  cases i with
  | zero =>
   simp at hx
   subst hx
   exact ⟨h.1.1, h.1.2⟩
  | succ i =>
   have := mksFrom_get r _ i x h.2 (by simpa using hx)
   exact ⟨this.1, by omega⟩
theorem mksFrom_lt : ∀ (l : List MK) (last : Int) (i j : Nat) (x y : MK), mksFrom last l = true → l[i]? = some x → l[j]? = some y → i < j → x.known < y.known
 | [], _, i, _, x, _, _, h, _, _ => by simp at h
 | z :: r, last, i, j, x, y, h, hx, hy, hij => by
  simp only [mksFrom, Bool.and_eq_true, decide_eq_true_eq] at h
  cases j with
  | zero => omega
  | succ j =>
   cases i with
   | zero =>
    simp at hx
    subst hx
    exact (mksFrom_get r _ j y h.2 (by simpa using hy)).2
   | succ i => exact mksFrom_lt r _ i j x y h.2 (by simpa using hx) (by simpa using hy) (by omega)
def lastF (ms : List MK) (k : Int) (key : ByteArray) : Nat → Int
 | 0 => -1
 | n + 1 => match ms[n]? with
  | some m => if m.known ≤ k ∧ m.key = key then (n : Int) else lastF ms k key n
  | none => lastF ms k key n
def visAt (ms : List MK) (k : Int) (i : Nat) : Bool := match ms[i]? with
 | some m => !m.void && decide (m.known ≤ k) && decide (lastF ms k m.key ms.length = i)
 | none => false
def visF (ms : List MK) (k : Int) : Nat → List Int
 | 0 => []
 | n + 1 => visF ms k n ++ if visAt ms k n = true then [(n : Int)] else []
def vis (ms : List MK) (k : Int) : List Int := visF ms k ms.length
theorem lastF_hit {ms : List MK} {k : Int} {key : ByteArray} {n : Nat} {m : MK} (hm : ms[n]? = some m) (h1 : m.known ≤ k) (h2 : m.key = key) : lastF ms k key (n + 1) = n := by
 simp [lastF, hm, h1, h2]
theorem lastF_miss {ms : List MK} {k : Int} {key : ByteArray} {n : Nat} {m : MK} (hm : ms[n]? = some m) (h : ¬(m.known ≤ k ∧ m.key = key)) : lastF ms k key (n + 1) = lastF ms k key n := by
 simp only [lastF, hm]
 rw [if_neg h]
theorem lastF_is {ms : List MK} {k : Int} {key : ByteArray} : ∀ (n : Nat) (i : Nat), lastF ms k key n = i → ∃ m, ms[i]? = some m ∧ m.known ≤ k ∧ m.key = key
 | 0, i, h => by
  simp only [lastF] at h
  omega
 | n + 1, i, h => by
  cases hm : ms[n]? with
  | none =>
   simp only [lastF, hm] at h
   exact lastF_is n i h
  | some m =>
   by_cases hc : m.known ≤ k ∧ m.key = key
   ·rw [lastF_hit hm hc.1 hc.2] at h
    obtain rfl : n = i := by omega
    exact ⟨m, hm, hc.1, hc.2⟩
   ·rw [lastF_miss hm hc] at h
    exact lastF_is n i h
theorem lastF_stop {ms : List MK} {k : Int} (hv : mksFrom 0 ms = true) {n : Nat} {m : MK} (hm : ms[n]? = some m) (hk : k < m.known) (key : ByteArray) : ∀ j : Nat, lastF ms k key (n + j) = lastF ms k key n
 | 0 => rfl
 | j + 1 => by
  have ih := lastF_stop hv hm hk key j
  rw [← Nat.add_assoc]
  cases hj : ms[n + j]? with
  | none =>
   rw [← ih]
   simp [lastF, hj]
  | some m2 =>
   rw [← ih]
   refine lastF_miss hj (fun h => ?_)
   rcases Nat.eq_zero_or_pos j with h0 | h0
   ·subst h0
    rw [Nat.add_zero, hm] at hj
    injection hj with hj
    subst hj
    omega
   ·have := mksFrom_lt ms 0 n (n + j) m m2 hv hm hj (by omega)
    omega
theorem visF_mem {ms : List MK} {k : Int} (i : Int) : ∀ n : Nat, i ∈ visF ms k n ↔ ∃ j : Nat, i = j ∧ j < n ∧ visAt ms k j = true
 | 0 => by simp [visF]
 | n + 1 => by
  rw [visF, List.mem_append, visF_mem i n]
  constructor
  ·rintro (⟨j, h1, h2, h3⟩ | h)
   ·exact ⟨j, h1, by omega, h3⟩
   ·split at h
    ·simp at h
     exact ⟨n, h, by omega, by assumption⟩
    ·simp at h
  ·rintro ⟨j, h1, h2, h3⟩
   rcases Nat.lt_or_ge j n with h | h
   ·exact .inl ⟨j, h1, h, h3⟩
   ·obtain rfl : j = n := by omega
    exact .inr (by rw [if_pos h3]; simp [h1])
theorem visF_asc {ms : List MK} {k : Int} : ∀ n : Nat, (visF ms k n).Pairwise (· < ·)
 | 0 => List.Pairwise.nil
 | n + 1 => by
  rw [visF, List.pairwise_append]
  refine ⟨visF_asc n, by split <;> simp, fun a ha b hb => ?_⟩
  obtain ⟨j, rfl, hj, -⟩ := (visF_mem a n).1 ha
  split at hb
  ·simp at hb
   omega
  ·simp at hb
theorem visF_len {ms : List MK} {k : Int} : ∀ n : Nat, (visF ms k n).length ≤ n
 | 0 => Nat.le_refl _
 | n + 1 => by
  have := visF_len (ms := ms) (k := k) n
  rw [visF, List.length_append]
  split <;> simp <;> omega
def cntN (ms : List MK) (k : Int) (key : ByteArray) (n : Nat) : Option Nat := match ms[(lastF ms k key n).toNat]? with
 | some m => if 0 ≤ lastF ms k key n ∧ m.void = false then some (lastF ms k key n).toNat else none
 | none => none
theorem cntN_zero (ms : List MK) (k : Int) (key : ByteArray) : cntN ms k key 0 = none := by
 have h : lastF ms k key 0 = -1 := rfl
 unfold cntN
 rw [h]
 split
 ·rw [if_neg (by omega)]
 ·rfl
theorem cntN_miss {ms : List MK} {k : Int} {key : ByteArray} {n : Nat} {m : MK} (hm : ms[n]? = some m) (h : m.key ≠ key) : cntN ms k key (n + 1) = cntN ms k key n := by
 unfold cntN
 rw [lastF_miss hm (fun e => h e.2)]
theorem cntN_void {ms : List MK} {k : Int} {n : Nat} {m : MK} (hm : ms[n]? = some m) (h1 : m.known ≤ k) (h2 : m.void = true) : cntN ms k m.key (n + 1) = none := by
 unfold cntN
 rw [lastF_hit hm h1 rfl]
 simp [hm, h2]
theorem cntN_set {ms : List MK} {k : Int} {n : Nat} {m : MK} (hm : ms[n]? = some m) (h1 : m.known ≤ k) (h2 : m.void = false) : cntN ms k m.key (n + 1) = some n := by
 unfold cntN
 rw [lastF_hit hm h1 rfl]
 simp [hm, h2]
theorem cntN_stop {ms : List MK} {k : Int} (hv : mksFrom 0 ms = true) {n : Nat} {m : MK} (hm : ms[n]? = some m) (hk : k < m.known) (hn : n ≤ ms.length) (key : ByteArray) : cntN ms k key ms.length = cntN ms k key n := by
 obtain ⟨j, hj⟩ : ∃ j, ms.length = n + j := ⟨ms.length - n, by omega⟩
 unfold cntN
 rw [hj, lastF_stop hv hm hk key j]
theorem cntN_key {ms : List MK} {k : Int} {key : ByteArray} {n i : Nat} (h : cntN ms k key n = some i) : ∃ m, ms[i]? = some m ∧ m.key = key ∧ m.void = false ∧ m.known ≤ k ∧ lastF ms k key n = i := by
 unfold cntN at h
 split at h
 ·rename_i m hm
  split at h
  ·rename_i hc
   injection h with h
   subst h
   have hi : lastF ms k key n = ((lastF ms k key n).toNat : Int) := by omega
   obtain ⟨m', h1, h2, h3⟩ := lastF_is n _ hi
   rw [hm] at h1
   injection h1 with h1
   subst h1
   exact ⟨m, hm, h3, hc.2, h2, hi⟩
  ·cases h
 ·cases h
theorem cntN_vis {ms : List MK} {k : Int} (i : Nat) : (∃ key, cntN ms k key ms.length = some i) ↔ (i : Int) ∈ vis ms k := by
 unfold vis
 rw [visF_mem]
 constructor
 ·rintro ⟨key, h⟩
  obtain ⟨m, h1, h2, h3, h4, h5⟩ := cntN_key h
  refine ⟨i, rfl, ?_, ?_⟩
  ·exact (List.getElem?_eq_some_iff.1 h1).1
  ·simp [visAt, h1, h3, h4, h2, h5]
 ·rintro ⟨j, h1, h2, h3⟩
  obtain rfl : j = i := by omega
  unfold visAt at h3
  split at h3
  ·rename_i m hm
   simp only [Bool.and_eq_true, Bool.not_eq_true', decide_eq_true_eq] at h3
   refine ⟨m.key, ?_⟩
   unfold cntN
   rw [h3.2]
   simp [hm, h3.1.1]
  ·cases h3
end
end
section
def bp (i : Nat) : Nat := 4294967296 ^ i
theorem bp_zero : bp 0 = 1 := rfl
theorem bp_one : bp 1 = 4294967296 := rfl
theorem bp_succ (i : Nat) : bp (i + 1) = bp i * 4294967296 := by unfold bp; rw [Nat.pow_succ]
theorem bp_add (i j : Nat) : bp (i + j) = bp i * bp j := by unfold bp; rw [Nat.pow_add]
theorem bp_pos (i : Nat) : 0 < bp i := by unfold bp; exact Nat.pow_pos (by omega)
theorem bp_le {i j : Nat} (h : i ≤ j) : bp i ≤ bp j := by unfold bp; exact Nat.pow_le_pow_right (by omega) h
theorem bp_split {i j : Nat} (h : i ≤ j) : bp j = bp i * bp (j - i) := by rw [← bp_add]; congr 1; omega
def lim (m i : Nat) : Nat := m / bp i % 4294967296
theorem lim_lt (m i : Nat) : lim m i < 4294967296 := Nat.mod_lt _ (by omega)
theorem lim_zero (i : Nat) : lim 0 i = 0 := by simp [lim]
theorem mod_succ (m i : Nat) : m % bp (i + 1) = m % bp i + lim m i * bp i := by
 rw [bp_succ, Nat.mod_mul, lim, Nat.mul_comm (bp i)]
theorem div_succ (m i : Nat) : m / bp i = m / bp (i + 1) * 4294967296 + lim m i := by
 rw [bp_succ, ← Nat.div_div_eq_div_mul, lim, Nat.mul_comm]
 exact (Nat.div_add_mod _ _).symm
theorem div_mod_bp (m i : Nat) : m = m / bp i * bp i + m % bp i := by
 rw [Nat.mul_comm]
 exact (Nat.div_add_mod _ _).symm
theorem lim_mod {x i j : Nat} (h : j < i) : lim (x % bp i) j = lim x j := by
 unfold lim
 rw [bp_split (Nat.le_of_lt h), Nat.mod_mul_right_div_self]
 exact Nat.mod_mod_of_dvd _ ⟨bp (i - j - 1), by rw [show i - j = (i - j - 1) + 1 by omega, bp_succ, Nat.mul_comm]; simp⟩
theorem lim_div {x i j : Nat} (h : i ≤ j) : lim x j = lim (x / bp i) (j - i) := by
 unfold lim
 rw [Nat.div_div_eq_div_mul, ← bp_add, show i + (j - i) = j by omega]
theorem div_bp_zero {m n : Nat} (h : m < bp n) : m / bp n = 0 := Nat.div_eq_of_lt h
theorem lt_of_div {m n : Nat} (h : m / bp n = 0) : m < bp n := by
 rcases Nat.lt_or_ge m (bp n) with h1 | h1
 ·exact h1
 ·have := Nat.div_pos h1 (bp_pos n)
  omega
theorem lim_ge {m n j : Nat} (h : m < bp n) (hj : n ≤ j) : lim m j = 0 := by
 rw [lim_div hj, div_bp_zero h, lim_zero]
def setM (m i d : Nat) : Nat := m / bp (i + 1) * bp (i + 1) + d * bp i + m % bp i
theorem setM_low {m i d : Nat} (hd : d < 4294967296) : d * bp i + m % bp i < bp (i + 1) := by
 have h1 := Nat.mod_lt m (bp_pos i)
 rw [bp_succ]
 calc d * bp i + m % bp i < d * bp i + bp i := by omega
  _ = (d + 1) * bp i := by rw [Nat.add_mul, Nat.one_mul]
  _ ≤ 4294967296 * bp i := Nat.mul_le_mul_right _ (by omega)
  _ = bp i * 4294967296 := Nat.mul_comm _ _
theorem setM_high {m i d : Nat} (hd : d < 4294967296) : setM m i d / bp (i + 1) = m / bp (i + 1) := by
 unfold setM
 rw [Nat.add_assoc, Nat.mul_comm, Nat.mul_add_div (bp_pos _), Nat.div_eq_of_lt (setM_low hd), Nat.add_zero]
theorem setM_mid {m i d : Nat} : setM m i d / bp i = m / bp (i + 1) * 4294967296 + d := by
 unfold setM
 have h1 := Nat.mod_lt m (bp_pos i)
 rw [bp_succ, show m / (bp i * 4294967296) * (bp i * 4294967296) + d * bp i + m % bp i = bp i * (m / (bp i * 4294967296) * 4294967296 + d) + m % bp i by
  rw [Nat.mul_add, Nat.mul_comm d, Nat.mul_left_comm (bp i)]]
 rw [Nat.mul_add_div (bp_pos _), Nat.div_eq_of_lt h1, Nat.add_zero]
theorem setM_mod {m i d : Nat} : setM m i d % bp i = m % bp i := by
 have h := div_mod_bp (setM m i d) i
 rw [setM_mid] at h
 unfold setM at h ⊢
 rw [bp_succ] at h ⊢
 have h1 : (m / (bp i * 4294967296) * 4294967296 + d) * bp i = m / (bp i * 4294967296) * (bp i * 4294967296) + d * bp i := by
  rw [Nat.add_mul, Nat.mul_assoc, Nat.mul_comm 4294967296]
 rw [h1] at h
 exact (Nat.add_left_cancel h).symm
theorem lim_set {m i d j : Nat} (hd : d < 4294967296) : lim (setM m i d) j = if j = i then d else lim m j := by
 by_cases h : j = i
 ·subst h
  rw [if_pos rfl, lim, setM_mid]
  omega
 ·rw [if_neg h]
  rcases Nat.lt_or_ge j i with h1 | h1
  ·rw [← lim_mod h1, setM_mod, lim_mod h1]
  ·rw [lim_div (show i + 1 ≤ j by omega), setM_high hd, ← lim_div (by omega)]
theorem setM_lt {m i d n : Nat} (hm : m < bp n) (hi : i < n) (hd : d < 4294967296) : setM m i d < bp n := by
 apply lt_of_div
 have h1 : bp n = bp (i + 1) * bp (n - (i + 1)) := bp_split (by omega)
 rw [h1, ← Nat.div_div_eq_div_mul, setM_high hd, Nat.div_div_eq_div_mul, ← h1, div_bp_zero hm]
theorem setM_add (m i d : Nat) : setM m i d + lim m i * bp i = m + d * bp i := by
 have h1 := div_mod_bp m (i + 1)
 rw [mod_succ] at h1
 unfold setM
 omega
theorem eq_of_lims : ∀ (n : Nat) {m k : Nat}, m < bp n → k < bp n → (∀ j, j < n → lim m j = lim k j) → m = k
 | 0, m, k, h1, h2, _ => by rw [bp_zero] at h1 h2; omega
 | n + 1, m, k, h1, h2, h => by
  have e : m % bp n = k % bp n := eq_of_lims n (Nat.mod_lt _ (bp_pos n)) (Nat.mod_lt _ (bp_pos n)) (fun j hj => by rw [lim_mod hj, lim_mod hj]; exact h j (by omega))
  have a := mod_succ m n
  have b := mod_succ k n
  rw [Nat.mod_eq_of_lt h1] at a
  rw [Nat.mod_eq_of_lt h2] at b
  rw [a, b, e, h n (by omega)]
def limA (n m : Nat) : Array Value := ((List.range n).map fun i => Value.int .u32 (lim m i)).toArray
theorem limA_size (n m : Nat) : (limA n m).size = n := by simp [limA]
theorem limA_at {n m j : Nat} (h : j < n) : (limA n m)[j]? = some (.int .u32 (lim m j)) := by simp [limA, h]
theorem limA_set {n m i d : Nat} (hd : d < 4294967296) : (limA n m).setIfInBounds i (.int .u32 d) = limA n (setM m i d) := by
 apply Array.ext
 ·simp [limA]
 ·intro k h1 h2
  simp only [limA, z6, z3]
  rw [List.getElem_set]
  split
  ·rename_i e
   subst e
   simp [lim_set hd]
  ·rename_i e
   have e2 : ¬k = i := fun h => e h.symm
   simp [lim_set hd, e2]
theorem limA_inj {n m k : Nat} (hm : m < bp n) (hk : k < bp n) (h : limA n m = limA n k) : m = k := by
 refine eq_of_lims n hm hk (fun j hj => ?_)
 have h1 := limA_at (n := n) (m := m) hj
 rw [h, limA_at hj] at h1
 injection h1 with h1
 injection h1 with h1 h2
 omega
theorem limA_zero (n : Nat) : limA n 0 = Array.replicate n (.int .u32 0) := by
 apply Array.ext
 ·simp [limA]
 ·intro k h1 h2
  simp [limA, lim_zero]
def Used (m n : Nat) : Prop := m < bp n ∧ (n = 0 ∨ bp (n - 1) ≤ m)
theorem Used.unique {m n k : Nat} (h : Used m n) (g : Used m k) : n = k := by
 have key : ∀ a b, Used m a → Used m b → a ≤ b := by
  rintro a b ⟨-, h2⟩ ⟨h3, -⟩
  rcases h2 with h2 | h2
  ·omega
  ·rcases Nat.lt_or_ge b a with h4 | h4
   ·have := bp_le (show b ≤ a - 1 by omega)
    omega
   ·exact h4
 exact Nat.le_antisymm (key _ _ h g) (key _ _ g h)
theorem Used.zero {n : Nat} : Used 0 n ↔ n = 0 := by
 constructor
 ·rintro ⟨-, h | h⟩
  ·exact h
  ·have := bp_pos (n - 1)
   omega
 ·rintro rfl
  exact ⟨bp_pos 0, .inl rfl⟩
theorem lt_pred {m n : Nat} (h : m < bp (n + 1)) (h0 : lim m n = 0) : m < bp n := by
 have h1 := div_succ m n
 rw [div_bp_zero h, h0] at h1
 exact lt_of_div (by omega)
theorem lim_top {m n : Nat} (h : m < bp (n + 1)) : lim m n = m / bp n := by
 have h1 := div_succ m n
 rw [div_bp_zero h] at h1
 omega
theorem le_of_lim {m n : Nat} (h : lim m n ≠ 0) : bp n ≤ m := by
 rcases Nat.lt_or_ge m (bp n) with h1 | h1
 ·exact absurd (lim_ge h1 (Nat.le_refl _)) h
 ·exact h1
def cmpN (a b : Nat) : Int := if a < b then -1 else if b < a then 1 else 0
theorem cmpN_step {a b i : Nat} (h : a / bp (i + 1) = b / bp (i + 1)) : (lim a i < lim b i → cmpN a b = -1) ∧ (lim b i < lim a i → cmpN a b = 1) ∧ (lim a i = lim b i → a / bp i = b / bp i) := by
 have ha := div_succ a i
 have hb := div_succ b i
 have key : ∀ x y : Nat, x / bp i < y / bp i → x < y := fun x y hxy => by
  rcases Nat.lt_or_ge x y with h1 | h1
  ·exact h1
  ·have := Nat.div_le_div_right (c := bp i) h1
   omega
 refine ⟨fun h1 => ?_, fun h1 => ?_, fun h1 => by rw [ha, hb, h, h1]⟩
 ·have := key a b (by omega)
  simp [cmpN, this]
 ·have h2 := key b a (by omega)
  unfold cmpN
  rw [if_neg (by omega), if_pos h2]
theorem cmpN_eq {a b : Nat} (h : a / bp 0 = b / bp 0) : cmpN a b = 0 := by
 rw [bp_zero, Nat.div_one, Nat.div_one] at h
 subst h
 simp [cmpN]
theorem setM_new {c i d : Nat} (hc : c < bp i) : setM c i d = c + d * bp i := by
 unfold setM
 rw [Nat.mod_eq_of_lt hc, Nat.div_eq_of_lt (Nat.lt_of_lt_of_le hc (bp_le (Nat.le_succ i)))]
 omega
theorem setM_new_lt {c i d : Nat} (hc : c < bp i) (hd : d < 4294967296) : setM c i d < bp (i + 1) := setM_lt (Nat.lt_of_lt_of_le hc (bp_le (Nat.le_succ i))) (Nat.lt_succ_self i) hd
theorem plus_step {a b c i k : Nat} (hc : c < bp i) (h : c + k * bp i = a % bp i + b % bp i) :
  setM c i ((lim a i + lim b i + k) % 4294967296) < bp (i + 1) ∧ setM c i ((lim a i + lim b i + k) % 4294967296) + (lim a i + lim b i + k) / 4294967296 * bp (i + 1) = a % bp (i + 1) + b % bp (i + 1) := by
 refine ⟨setM_new_lt hc (Nat.mod_lt _ (by omega)), ?_⟩
 rw [setM_new hc, mod_succ, mod_succ, bp_succ]
 generalize hs : lim a i + lim b i + k = s
 have e : s % 4294967296 * bp i + s / 4294967296 * (bp i * 4294967296) = s * bp i := by
  rw [Nat.mul_comm (bp i), ← Nat.mul_assoc, ← Nat.add_mul]
  congr 1
  omega
 have e2 : s * bp i = lim a i * bp i + lim b i * bp i + k * bp i := by rw [← hs, Nat.add_mul, Nat.add_mul]
 omega
theorem minus_step {a b c i k d k' : Nat} (hc : c < bp i) (h : c + b % bp i = a % bp i + k * bp i) (hd : d < 4294967296) (he : d + lim b i + k = lim a i + k' * 4294967296) :
  setM c i d < bp (i + 1) ∧ setM c i d + b % bp (i + 1) = a % bp (i + 1) + k' * bp (i + 1) := by
 refine ⟨setM_new_lt hc hd, ?_⟩
 rw [setM_new hc, mod_succ, mod_succ, bp_succ]
 have e : d * bp i + lim b i * bp i + k * bp i = lim a i * bp i + k' * (bp i * 4294967296) := by
  rw [← Nat.add_mul, ← Nat.add_mul, he, Nat.add_mul, Nat.mul_assoc, Nat.mul_comm 4294967296]
 omega
theorem times_step {a b c i j k : Nat} (h : c + k * bp (i + j) = (a % bp i) * b + lim a i * (b % bp j) * bp i) :
  setM c (i + j) ((lim a i * lim b j + lim c (i + j) + k) % 4294967296) + (lim a i * lim b j + lim c (i + j) + k) / 4294967296 * bp (i + (j + 1)) = (a % bp i) * b + lim a i * (b % bp (j + 1)) * bp i := by
 have h0 := setM_add c (i + j) ((lim a i * lim b j + lim c (i + j) + k) % 4294967296)
 rw [show i + (j + 1) = i + j + 1 by omega, mod_succ, Nat.mul_add, Nat.add_mul, ← Nat.add_assoc, ← h, bp_succ]
 generalize hs : lim a i * lim b j + lim c (i + j) + k = s at h0 ⊢
 have e : s % 4294967296 * bp (i + j) + s / 4294967296 * (bp (i + j) * 4294967296) = s * bp (i + j) := by
  rw [Nat.mul_comm (bp (i + j)), ← Nat.mul_assoc, ← Nat.add_mul]
  congr 1
  omega
 have e2 : s * bp (i + j) = lim a i * lim b j * bp (i + j) + lim c (i + j) * bp (i + j) + k * bp (i + j) := by rw [← hs, Nat.add_mul, Nat.add_mul]
 have e3 : lim a i * (lim b j * bp j) * bp i = lim a i * lim b j * bp (i + j) := by
  rw [bp_add, Nat.mul_assoc, Nat.mul_assoc, Nat.mul_assoc, Nat.mul_comm (bp j) (bp i)]
 rw [e3]
 omega
theorem times_lt {x y c k : Nat} (hx : x < 4294967296) (hy : y < 4294967296) (hc : c < 4294967296) (hk : k < 4294967296) : x * y + c + k < 18446744073709551616 := by
 have := Nat.mul_le_mul (show x ≤ 4294967295 by omega) (show y ≤ 4294967295 by omega)
 omega
theorem times_row {a b c i m k : Nat} (hb : b < bp m) (hc : c < bp (i + m)) (hk : k < 4294967296) (h : c + k * bp (i + m) = (a % bp i) * b + lim a i * (b % bp m) * bp i) :
  setM c (i + m) k = (a % bp (i + 1)) * b ∧ setM c (i + m) k < bp (i + 1 + m) := by
 refine ⟨?_, ?_⟩
 ·rw [setM_new hc, h, Nat.mod_eq_of_lt hb, mod_succ, Nat.add_mul, Nat.mul_right_comm]
 ·rw [show i + 1 + m = i + m + 1 by omega]
  exact setM_new_lt hc hk
theorem short_mod {x : Nat} (h : 0 < x) (s : Nat) : s % x < x := Nat.mod_lt _ h
theorem short_sum {x : Nat} (h : 0 < x) (C s : Nat) : C * x + s = (C + s / x) * x + s % x := by
 have e3 := Nat.div_add_mod s x
 rw [Nat.mul_comm x] at e3
 rw [Nat.add_mul, Nat.add_assoc, e3]
theorem short_step {m x c i r : Nat} (hx : x < 4294967296) (hr : r < x) (hl : c % bp (i + 1) = m % bp (i + 1)) (h : m / bp (i + 1) = c / bp (i + 1) * x + r) :
  (r * 4294967296 + lim c i) / x < 4294967296 ∧ (r * 4294967296 + lim c i) % x < x ∧ setM c i ((r * 4294967296 + lim c i) / x) % bp i = m % bp i ∧ m / bp i = setM c i ((r * 4294967296 + lim c i) / x) / bp i * x + (r * 4294967296 + lim c i) % x := by
 have hlt := lim_lt c i
 have h1 : (r * 4294967296 + lim c i) / x < 4294967296 := by
  rw [Nat.div_lt_iff_lt_mul (by omega)]
  have := Nat.mul_le_mul_left 4294967296 (show r + 1 ≤ x by omega)
  omega
 have e1 : c % bp i = m % bp i := by
  have a := congrArg (· % bp i) hl
  simp only [bp_succ] at a
  rwa [Nat.mod_mul_right_mod, Nat.mod_mul_right_mod] at a
 have e2 : lim c i = lim m i := by rw [← lim_mod (Nat.lt_succ_self i), hl, lim_mod (Nat.lt_succ_self i)]
 have hx0 : 0 < x := Nat.lt_of_le_of_lt (Nat.zero_le r) hr
 have e5 : m / bp i = (c / bp (i + 1) * x + r) * 4294967296 + lim c i := by rw [div_succ m i, h, ← e2]
 have e6 : (c / bp (i + 1) * x + r) * 4294967296 + lim c i = c / bp (i + 1) * 4294967296 * x + (r * 4294967296 + lim c i) := by
  rw [Nat.add_mul, Nat.mul_right_comm, Nat.add_assoc]
 rw [setM_mod, setM_mid, e5, e6]
 exact ⟨h1, short_mod hx0 _, e1, short_sum hx0 _ _⟩
end
section
structure Est (T V n g r : Nat) : Prop where
 eq : g * lim V (n - 1) + r = lim T n * 4294967296 + lim T (n - 1)
 le : T / V ≤ g
structure Div1 (T V n : Nat) : Prop where
 n2 : 2 ≤ n
 vlt : V < bp n
 vge : bp n ≤ 2 * V
 tlt : T < V * 4294967296
section
variable {T V n g r : Nat}
theorem Div1.vpos (h : Div1 T V n) : 0 < V := by
 have := bp_pos n
 have := h.vge
 omega
theorem Div1.tb (h : Div1 T V n) : T < bp (n + 1) := by
 rw [bp_succ]
 exact Nat.lt_trans h.tlt (Nat.mul_lt_mul_of_pos_right h.vlt (by omega))
theorem Div1.high (h : Div1 T V n) : lim V (n - 1) = V / bp (n - 1) := lim_top (by rw [show n - 1 + 1 = n by have := h.n2; omega]; exact h.vlt)
theorem Div1.half (h : Div1 T V n) : 2147483648 ≤ lim V (n - 1) := by
 have hn := h.n2
 rw [h.high, Nat.le_div_iff_mul_le (bp_pos _)]
 have h1 := h.vge
 rw [show n = n - 1 + 1 by omega, bp_succ] at h1
 omega
theorem Div1.two (h : Div1 T V n) : T / bp (n - 1) = lim T n * 4294967296 + lim T (n - 1) := by
 have hn := h.n2
 rw [div_succ T (n - 1), show n - 1 + 1 = n by omega, lim_top h.tb]
theorem Div1.vlow (h : Div1 T V n) : lim V (n - 1) * bp (n - 1) ≤ V := by
 rw [h.high]
 exact Nat.div_mul_le_self _ _
theorem Div1.vfirst (h : Div1 T V n) : V / bp (n - 2) = lim V (n - 1) * 4294967296 + lim V (n - 2) := by
 have hn := h.n2
 rw [div_succ V (n - 2), show n - 2 + 1 = n - 1 by omega, h.high]
theorem Div1.tfirst (h : Div1 T V n) : T / bp (n - 2) = (lim T n * 4294967296 + lim T (n - 1)) * 4294967296 + lim T (n - 2) := by
 have hn := h.n2
 rw [div_succ T (n - 2), show n - 2 + 1 = n - 1 by omega, h.two]
theorem Div1.ttop (h : Div1 T V n) : lim T n ≤ lim V (n - 1) := by
 have hn := h.n2
 rw [lim_top h.tb, h.high]
 have h1 : T / bp n < V / bp (n - 1) + 1 := by
  rw [Nat.div_lt_iff_lt_mul (bp_pos n)]
  refine Nat.lt_of_lt_of_le h.tlt ?_
  have h2 := div_mod_bp V (n - 1)
  have h3 := Nat.mod_lt V (bp_pos (n - 1))
  rw [show bp n = bp (n - 1) * 4294967296 by rw [← bp_succ]; congr 1; omega, ← Nat.mul_assoc]
  refine Nat.mul_le_mul_right _ ?_
  rw [Nat.add_mul, Nat.one_mul]
  omega
 omega
theorem Est.start (h : Div1 T V n) : Est T V n ((lim T n * 4294967296 + lim T (n - 1)) / lim V (n - 1)) ((lim T n * 4294967296 + lim T (n - 1)) % lim V (n - 1)) := by
 have hh := h.half
 refine ⟨by rw [Nat.mul_comm]; exact Nat.div_add_mod _ _, ?_⟩
 rw [← h.two, Nat.div_div_eq_div_mul, Nat.mul_comm (bp (n - 1))]
 exact Nat.div_le_div_left h.vlow (Nat.mul_pos (by omega) (bp_pos _))
theorem Est.down (h : Div1 T V n) (e : Est T V n g r) (hc : 4294967296 ≤ g ∨ r * 4294967296 + lim T (n - 2) < g * lim V (n - 2)) : 1 ≤ g ∧ Est T V n (g - 1) (r + lim V (n - 1)) := by
 have key : T / V < g := by
  rcases hc with hc | hc
  ·have : T / V < 4294967296 := by
    rw [Nat.div_lt_iff_lt_mul h.vpos, Nat.mul_comm]
    exact h.tlt
   omega
  ·rw [Nat.div_lt_iff_lt_mul h.vpos]
   have h1 := div_mod_bp T (n - 2)
   have h2 := Nat.mod_lt T (bp_pos (n - 2))
   rw [h.tfirst] at h1
   have h3 : V / bp (n - 2) * bp (n - 2) ≤ V := Nat.div_mul_le_self _ _
   rw [h.vfirst] at h3
   have h4 := Nat.mul_le_mul_left g h3
   have h5 : (lim T n * 4294967296 + lim T (n - 1)) * 4294967296 + lim T (n - 2) + 1 ≤ g * (lim V (n - 1) * 4294967296 + lim V (n - 2)) := by
    rw [← e.eq, Nat.mul_add, Nat.add_mul, Nat.mul_assoc]
    omega
   have h6 := Nat.mul_le_mul_right (bp (n - 2)) h5
   rw [Nat.add_mul, Nat.one_mul, Nat.mul_assoc] at h6
   omega
 have hg : 1 ≤ g := Nat.lt_of_le_of_lt (Nat.zero_le _) key
 refine ⟨hg, ?_, Nat.le_sub_one_of_lt key⟩
 have h1 := e.eq
 have h2 : g * lim V (n - 1) = (g - 1) * lim V (n - 1) + lim V (n - 1) := by
  conv => lhs; rw [show g = g - 1 + 1 by omega, Nat.add_mul, Nat.one_mul]
 omega
theorem Est.small (h : Div1 T V n) (e : Est T V n g r) (hr : 4294967296 ≤ r) : g < 4294967296 := by
 have h1 := e.eq
 have h2 := h.ttop
 have h3 := lim_lt T (n - 1)
 have h4 := h.half
 rcases Nat.lt_or_ge g 4294967296 with h5 | h5
 ·exact h5
 ·have := Nat.mul_le_mul_right (lim V (n - 1)) h5
  omega
theorem Est.most (h : Div1 T V n) (e : Est T V n g r) : g ≤ 4294967297 := by
 have h1 := e.eq
 have h2 := h.ttop
 have h3 := lim_lt T (n - 1)
 have h4 := h.half
 rcases Nat.lt_or_ge 4294967297 g with h5 | h5
 ·have := Nat.mul_le_mul_right (lim V (n - 1)) (show 4294967298 ≤ g from h5)
  omega
 ·exact h5
theorem Est.done (h : Div1 T V n) (e : Est T V n g r) (hg : g < 4294967296) (hc : g * lim V (n - 2) ≤ r * 4294967296 + lim T (n - 2)) : g ≤ T / V + 1 := by
 have hn := h.n2
 have h1 := div_mod_bp T (n - 2)
 rw [h.tfirst] at h1
 have h2 := div_mod_bp V (n - 2)
 have h3 := Nat.mod_lt V (bp_pos (n - 2))
 rw [h.vfirst] at h2
 have h4 : g * (lim V (n - 1) * 4294967296 + lim V (n - 2)) ≤ (lim T n * 4294967296 + lim T (n - 1)) * 4294967296 + lim T (n - 2) := by
  rw [← e.eq, Nat.mul_add, Nat.add_mul, Nat.mul_assoc]
  omega
 have h5 := Nat.mul_le_mul_right (bp (n - 2)) h4
 rw [Nat.mul_assoc] at h5
 have h6 : g * V ≤ g * ((lim V (n - 1) * 4294967296 + lim V (n - 2)) * bp (n - 2)) + g * bp (n - 2) := by
  rw [← Nat.mul_add]
  exact Nat.mul_le_mul_left g (by omega)
 have h7 : g * bp (n - 2) ≤ 4294967295 * bp (n - 2) := Nat.mul_le_mul_right _ (by omega)
 have h8 : bp (n - 1) ≤ V := by
  have a := h.vge
  rw [show n = n - 1 + 1 by omega, bp_succ] at a
  omega
 rw [show n - 1 = n - 2 + 1 by omega, bp_succ] at h8
 have h9 := bp_pos (n - 2)
 have h10 : g * V < T + V := by omega
 rcases Nat.lt_or_ge (T / V + 1) g with h11 | h11
 ·have h12 := Nat.mul_le_mul_right V (show T / V + 1 + 1 ≤ g from h11)
  have h13 := Nat.lt_div_mul_add (a := T) h.vpos
  rw [Nat.add_mul, Nat.add_mul, Nat.one_mul] at h12
  omega
 ·exact h11
end
theorem setM_slice {W i j d : Nat} : setM W (j + i) d / bp j = setM (W / bp j) i d ∧ setM W (j + i) d % bp j = W % bp j := by
 have e : setM W (j + i) d = setM (W / bp j) i d * bp j + W % bp j := by
  unfold setM
  have h1 := Nat.mod_mul (x := W) (a := bp j) (b := bp i)
  rw [← bp_add] at h1
  rw [h1, Nat.div_div_eq_div_mul, ← bp_add, show j + (i + 1) = j + i + 1 by omega]
  rw [Nat.add_mul, Nat.add_mul, Nat.mul_assoc, ← bp_add, Nat.mul_assoc d, ← bp_add, show i + 1 + j = j + i + 1 by omega, Nat.add_comm i j, Nat.mul_comm (bp j)]
  omega
 have hl := Nat.mod_lt W (bp_pos j)
 rw [e]
 constructor
 ·rw [Nat.mul_comm, Nat.mul_add_div (bp_pos j), Nat.div_eq_of_lt hl, Nat.add_zero]
 ·rw [Nat.mul_comm, Nat.mul_add_mod, Nat.mod_eq_of_lt hl]
theorem lim_slice (W i j : Nat) : lim W (j + i) = lim (W / bp j) i := by
 rw [lim_div (show j ≤ j + i by omega), Nat.add_sub_cancel_left]
theorem off_step {T V g t i k b d b' : Nat} (hh : t / bp i = T / bp i) (h : t % bp i + g * (V % bp i) = T % bp i + (k + b) * bp i) (hd : d < 4294967296)
  (he : d + (g * lim V i + k) % 4294967296 + b = lim T i + b' * 4294967296) :
  setM t i d / bp (i + 1) = T / bp (i + 1) ∧ setM t i d % bp (i + 1) + g * (V % bp (i + 1)) = T % bp (i + 1) + ((g * lim V i + k) / 4294967296 + b') * bp (i + 1) := by
 refine ⟨by rw [setM_high hd, bp_succ, ← Nat.div_div_eq_div_mul, hh, Nat.div_div_eq_div_mul], ?_⟩
 rw [mod_succ (setM _ _ _), setM_mod, lim_set hd, if_pos rfl, mod_succ V, mod_succ T, Nat.mul_add, bp_succ]
 generalize hs : g * lim V i + k = s at he ⊢
 have e1 : g * (lim V i * bp i) + k * bp i = s * bp i := by rw [← hs, Nat.add_mul, Nat.mul_assoc]
 have e2 : s * bp i = s % 4294967296 * bp i + s / 4294967296 * (bp i * 4294967296) := by
  rw [Nat.mul_comm (bp i), ← Nat.mul_assoc, ← Nat.add_mul]
  congr 1
  omega
 have e3 : d * bp i + s % 4294967296 * bp i + b * bp i = lim T i * bp i + b' * (bp i * 4294967296) := by
  rw [← Nat.add_mul, ← Nat.add_mul, he, Nat.add_mul, Nat.mul_assoc, Nat.mul_comm 4294967296]
 rw [Nat.add_mul] at h
 rw [Nat.add_mul]
 omega
theorem off_last {T V g t n k b d b' : Nat} (hT : T < bp (n + 1)) (hV : V < bp n) (hh : t / bp n = T / bp n) (h : t % bp n + g * (V % bp n) = T % bp n + (k + b) * bp n) (hd : d < 4294967296) (hk : k < 4294967296)
  (he : d + k + b = lim T n + b' * 4294967296) : setM t n d < bp (n + 1) ∧ setM t n d + g * V = T + b' * bp (n + 1) := by
 have h1 := div_mod_bp (setM t n d) n
 rw [setM_mid, setM_mod, show t / bp (n + 1) = 0 by rw [bp_succ, ← Nat.div_div_eq_div_mul, hh, Nat.div_div_eq_div_mul, ← bp_succ]; exact div_bp_zero hT] at h1
 rw [Nat.mod_eq_of_lt hV] at h
 have h2 := div_mod_bp T n
 rw [← lim_top hT] at h2
 have e3 : d * bp n + k * bp n + b * bp n = lim T n * bp n + b' * (bp n * 4294967296) := by
  rw [← Nat.add_mul, ← Nat.add_mul, he, Nat.add_mul, Nat.mul_assoc, Nat.mul_comm 4294967296]
 rw [Nat.add_mul] at h
 have h3 := Nat.mod_lt t (bp_pos n)
 simp only [Nat.zero_mul, Nat.zero_add] at h1
 refine ⟨?_, ?_⟩
 ·rw [h1, bp_succ]
  have := Nat.mul_le_mul_right (bp n) (show d + 1 ≤ 4294967296 by omega)
  rw [Nat.add_mul, Nat.one_mul] at this
  omega
 ·rw [bp_succ]
  omega
theorem off_ok {T V g t : Nat} (hV : 0 < V) (hl : T / V ≤ g) (h : t + g * V = T) : g = T / V ∧ t = T % V := by
 have h1 : g ≤ T / V := by
  rw [Nat.le_div_iff_mul_le hV]
  omega
 have h2 : g = T / V := by omega
 refine ⟨h2, ?_⟩
 have h3 := Nat.div_add_mod T V
 rw [Nat.mul_comm, ← h2] at h3
 omega
theorem back_step {S V t i c : Nat} (hh : t / bp i = S / bp i) (h : t % bp i + c * bp i = S % bp i + V % bp i) :
  setM t i ((lim S i + lim V i + c) % 4294967296) / bp (i + 1) = S / bp (i + 1) ∧ setM t i ((lim S i + lim V i + c) % 4294967296) % bp (i + 1) + (lim S i + lim V i + c) / 4294967296 * bp (i + 1) = S % bp (i + 1) + V % bp (i + 1) := by
 have hd := Nat.mod_lt (lim S i + lim V i + c) (show 0 < 4294967296 by omega)
 refine ⟨by rw [setM_high hd, bp_succ, ← Nat.div_div_eq_div_mul, hh, Nat.div_div_eq_div_mul], ?_⟩
 rw [mod_succ (setM _ _ _), setM_mod, lim_set hd, if_pos rfl, mod_succ S, mod_succ V, bp_succ]
 generalize hs : lim S i + lim V i + c = s
 have e : s % 4294967296 * bp i + s / 4294967296 * (bp i * 4294967296) = s * bp i := by
  rw [Nat.mul_comm (bp i), ← Nat.mul_assoc, ← Nat.add_mul]
  congr 1
  omega
 have e2 : s * bp i = lim S i * bp i + lim V i * bp i + c * bp i := by rw [← hs, Nat.add_mul, Nat.add_mul]
 omega
theorem back_last {T S V g t n c : Nat} (h1 : Div1 T V n) (hS : S < bp (n + 1)) (hg : g ≤ T / V + 1) (hl : S + g * V = T + bp (n + 1)) (hh : t / bp n = S / bp n) (h : t % bp n + c * bp n = S % bp n + V % bp n) :
  1 ≤ g ∧ g - 1 = T / V ∧ setM t n ((lim S n + c) % 4294967296) = T % V := by
 have hV := h1.vpos
 have hdm := Nat.div_add_mod T V
 have hml := Nat.mod_lt T hV
 have hge : T / V < g := by
  rw [Nat.div_lt_iff_lt_mul hV]
  omega
 have e1 : g = T / V + 1 := Nat.le_antisymm hg hge
 refine ⟨by rw [e1]; exact Nat.le_add_left 1 _, by rw [e1]; exact Nat.add_sub_cancel _ _, ?_⟩
 rw [e1, Nat.add_mul, Nat.one_mul, Nat.mul_comm] at hl
 have hlow := div_mod_bp (setM t n ((lim S n + c) % 4294967296)) n
 rw [setM_mid, setM_mod, show t / bp (n + 1) = 0 by rw [bp_succ, ← Nat.div_div_eq_div_mul, hh, Nat.div_div_eq_div_mul, ← bp_succ]; exact div_bp_zero hS] at hlow
 simp only [Nat.zero_mul, Nat.zero_add] at hlow
 rw [Nat.mod_eq_of_lt h1.vlt] at h
 have h2 := div_mod_bp S n
 rw [← lim_top hS] at h2
 have h3 : (lim S n + c) * bp n = (lim S n + c) % 4294967296 * bp n + (lim S n + c) / 4294967296 * (bp n * 4294967296) := by
  rw [Nat.mul_comm (bp n), ← Nat.mul_assoc, ← Nat.add_mul]
  congr 1
  omega
 rw [Nat.add_mul] at h3
 rw [bp_succ] at hl
 have hmod := Nat.mod_lt t (bp_pos n)
 have hdl := Nat.mod_lt (lim S n + c) (show 0 < 4294967296 by omega)
 have hup := Nat.mul_le_mul_right (bp n) (show (lim S n + c) % 4294967296 + 1 ≤ 4294967296 by omega)
 rw [Nat.add_mul, Nat.one_mul] at hup
 have hTV : T % V < bp n * 4294967296 := by
  have := h1.vlt
  have := bp_pos n
  omega
 generalize (lim S n + c) / 4294967296 = q at h3
 generalize (lim S n + c) % 4294967296 = y at *
 rcases Nat.lt_or_ge q 1 with hq | hq
 ·have : q = 0 := by omega
  subst this
  simp only [Nat.zero_mul, Nat.add_zero] at h3
  omega
 ·rcases Nat.lt_or_ge 1 q with hq2 | hq2
  ·have := Nat.mul_le_mul_right (bp n * 4294967296) (show 2 ≤ q from hq2)
   omega
  ·have : q = 1 := by omega
   subst this
   simp only [Nat.one_mul] at h3
   omega
theorem div_limb {A V U Q j : Nat} (hV : 0 < V) (h : A = Q * V + U) (hU : U < V * bp (j + 1)) :
  U / bp j < V * 4294967296 ∧ A = (Q + U / bp j / V * bp j) * V + (U / bp j % V * bp j + U % bp j) ∧ U / bp j % V * bp j + U % bp j < V * bp j := by
 have hl := Nat.mod_lt U (bp_pos j)
 have hm := Nat.mod_lt (U / bp j) hV
 refine ⟨?_, ?_, ?_⟩
 ·rw [Nat.div_lt_iff_lt_mul (bp_pos j), Nat.mul_assoc, Nat.mul_comm 4294967296, ← bp_succ]
  exact hU
 ·have h1 := div_mod_bp U j
  have h2 := Nat.div_add_mod (U / bp j) V
  have h3 : U / bp j * bp j = U / bp j / V * bp j * V + U / bp j % V * bp j := by
   conv => lhs; rw [← h2]
   rw [Nat.add_mul, Nat.mul_comm V, Nat.mul_right_comm]
  rw [Nat.add_mul]
  omega
 ·have := Nat.mul_le_mul_right (bp j) (show U / bp j % V + 1 ≤ V by omega)
  rw [Nat.add_mul, Nat.one_mul] at this
  omega
end
section
open Go.RowKit
set_option maxHeartbeats 4000000
def RetN (v : Value) (w : World) (e : Ending) (w' : World) : Prop := e = .returned v ∧ ∃ n, w' = w.drewN n
theorem half_or (a b : Nat) : (a ||| b) / 2147483648 = (a / 2147483648) ||| (b / 2147483648) := by
 have h := Nat.shiftRight_or_distrib (i := 31) (a := a) (b := b)
 simpa [Nat.shiftRight_eq_div_pow] using h
theorem half_and (a b : Nat) : (a &&& b) / 2147483648 = (a / 2147483648) &&& (b / 2147483648) := by
 have h := Nat.shiftRight_and_distrib (i := 31) (a := a) (b := b)
 simpa [Nat.shiftRight_eq_div_pow] using h
theorem half_xor (a b : Nat) : (a ^^^ b) / 2147483648 = (a / 2147483648) ^^^ (b / 2147483648) := by
 have h := Nat.shiftRight_xor_distrib (i := 31) (a := a) (b := b)
 simpa [Nat.shiftRight_eq_div_pow] using h
theorem sub_borrow {x y c d b : Nat} (hx : x < 4294967296) (hy : y < 4294967296) (hc : c ≤ 1) (hd : d < 4294967296) (hb : b ≤ 1) (h : d + y + c = x + b * 4294967296) :
  (((4294967295 ^^^ x) &&& y) ||| ((4294967295 ^^^ (x ^^^ y)) &&& d)) / 2147483648 = b := by
 rw [half_or, half_and, half_and, half_xor, half_xor, half_xor]
 rw [show 4294967295 / 2147483648 = 1 from rfl]
 have hX : x / 2147483648 = 0 ∨ x / 2147483648 = 1 := by omega
 have hY : y / 2147483648 = 0 ∨ y / 2147483648 = 1 := by omega
 have hD : d / 2147483648 = 0 ∨ d / 2147483648 = 1 := by omega
 have hB : b = 0 ∨ b = 1 := by omega
 rcases hX with h1 | h1 <;> rcases hY with h2 | h2 <;> rcases hD with h3 | h3 <;> rcases hB with h4 | h4 <;> rw [h1, h2, h3, h4] <;> first | rfl | (exfalso; subst h4; omega)
theorem sub_ex (x y c : Nat) (hx : x < 4294967296) (hy : y < 4294967296) (hc : c ≤ 1) : ∃ d b : Nat, d < 4294967296 ∧ b ≤ 1 ∧ d + y + c = x + b * 4294967296 := by
 by_cases h : x < y + c
 ·exact ⟨x + 4294967296 - y - c, 1, by omega, by omega, by omega⟩
 ·exact ⟨x - y - c, 0, by omega, by omega, by omega⟩
theorem add32_any (x y c : Nat) {s k : Nat} (hx : x < 4294967296) (hy : y < 4294967296) (hc : c < 4294967296) (hs : (x + y + c) % 4294967296 = s) (hk : (x + y + c) / 4294967296 = k) (w : World) : Calls Tryz.prog 228 #[.int .u32 x, .int .u32 y, .int .u32 c] w (RetW (.tuple #[.int .u32 s, .int .u32 k]) w) := by
 have HS := Lib.hid (And.intro hs hk)
 clear hs hk
 go_enter Tryz.func228, Tryz.ntmps228
 go_wp2
 go_ret2
 refine ⟨?_, rfl⟩
 rw [← HS.out.1, ← HS.out.2, show ((x : Int) + y + c) % 4294967296 = ((x + y + c) % 4294967296 : Nat) by omega, show ((x : Int) + y + c) / 4294967296 = ((x + y + c) / 4294967296 : Nat) by omega]
 rfl
theorem sub32_any (x y c : Nat) {d b : Nat} (hx : x < 4294967296) (hy : y < 4294967296) (hc : c ≤ 1) (hd : d < 4294967296) (hb : b ≤ 1) (he : d + y + c = x + b * 4294967296) (w : World) : Calls Tryz.prog 227 #[.int .u32 x, .int .u32 y, .int .u32 c] w (RetW (.tuple #[.int .u32 d, .int .u32 b]) w) := by
 have HE := Lib.hid he
 clear he
 go_enter Tryz.func227, Tryz.ntmps227
 go_wp2
 all_goals
  go_ret2
  refine ⟨?_, rfl⟩
  have h := HE.out
  have e1 : ((x : Int) - y - c) % 4294967296 = (d : Int) := by omega
  have hxy : x ^^^ y < 4294967296 := Nat.xor_lt_two_pow (n := 32) hx hy
  have hm : IntKind.u32.max = ((4294967295 : Nat) : Int) := rfl
  have hnx : 4294967295 ^^^ x < 4294967296 := Nat.xor_lt_two_pow (n := 32) (by decide) hx
  have hnz : 4294967295 ^^^ (x ^^^ y) < 4294967296 := Nat.xor_lt_two_pow (n := 32) (by decide) hxy
  have h1 : (4294967295 ^^^ x) &&& y < 4294967296 := Nat.and_lt_two_pow (n := 32) _ hy
  have h2 : (4294967295 ^^^ (x ^^^ y)) &&& d < 4294967296 := Nat.and_lt_two_pow (n := 32) _ hd
  rw [e1, hm, u32_xor_nat 4294967295 x (by decide) hx, u32_and_nat _ _ hnx hy, u32_xor_nat x y hx hy, u32_xor_nat 4294967295 _ (by decide) hxy, u32_and_nat _ _ hnz hd, u32_or_nat _ _ h1 h2]
  have h3 := sub_borrow hx hy hc hd hb h
  congr 4
  rw [← h3]
  rfl
theorem or64 {hi lo : Nat} (h1 : hi < 4294967296) (h2 : lo < 4294967296) : bits .or .u64 ((hi : Int) * 4294967296) lo = ((hi * 4294967296 + lo : Nat) : Int) := by
 have e : hi * 4294967296 ||| lo = hi * 4294967296 + lo := by
  rw [Nat.mul_comm]
  exact (Nat.two_pow_add_eq_or_of_lt (i := 32) h2 hi).symm
 rw [show ((hi : Int) * 4294967296) = ((hi * 4294967296 : Nat) : Int) by omega, u64_or_nat _ _ (by omega) (by omega), e]
theorem wrap64 {n : Nat} (h : n < 18446744073709551616) : IntKind.u64.wrap (n : Int) = n := by
 rw [IntKind.wrap_u64]
 omega
theorem div32_any (hi lo y : Nat) (h1 : hi < y) (h2 : lo < 4294967296) (h3 : y < 4294967296) (w : World) : Calls Tryz.prog 200 #[.int .u32 hi, .int .u32 lo, .int .u32 y] w (RetN (.tuple #[.int .u32 ((hi * 4294967296 + lo) / y : Nat), .int .u32 ((hi * 4294967296 + lo) % y : Nat)]) w) := by
 have y0 : (y : Int) ≠ 0 := by omega
 have y1 : ¬ (y : Int) ≤ (hi : Int) := by omega
 go_enter Tryz.func200, Tryz.ntmps200
 go_wp2
 go_quiet (fail)
 go_wp2_with fail
 go_ret2
 refine ⟨?_, nq, rfl⟩
 have hq : (hi * 4294967296 + lo) / y < 4294967296 := by
  rw [Nat.div_lt_iff_lt_mul (by omega)]
  have := Nat.mul_le_mul_left 4294967296 (show hi + 1 ≤ y by omega)
  omega
 have hr : (hi * 4294967296 + lo) % y < 4294967296 := Nat.lt_trans (Nat.mod_lt _ (by omega)) h3
 rw [or64 (by omega) h2, ← Int.ofNat_tdiv, ← Int.ofNat_tmod]
 generalize (hi * 4294967296 + lo) / y = q at *
 generalize (hi * 4294967296 + lo) % y = m at *
 rw [wrap64 (by omega), show ((q : Nat) : Int) % 4294967296 = q by omega, show ((m : Nat) : Int) % 4294967296 = m by omega]
 rfl
end
section
open Go.RowKit
set_option maxHeartbeats 4000000
theorem rowMagT : RowT Tryz.prog 155 32 := ⟨⟨_, Tryz.underlying155, rfl⟩, by kernel_rfl⟩
theorem limA_one (n m : Nat) : (limA n m).all (·.oneCell') = true := by simp [limA, Value.oneCell']
theorem rowMag (m : Nat) : RowV Tryz.prog 155 (limA 32 m) := ⟨by rw [limA_size]; exact rowMagT, limA_one 32 m⟩
def MagAt (W : World) (g m : Nat) : Prop := BlkAt W g (limA 32 m) 155
theorem MagAt.blk {W : World} {g m : Nat} (h : MagAt W g m) : BlkAt W g (limA 32 m) 155 := h
theorem MagAt.cell {W : World} {g m i : Nat} (h : MagAt W g m) (hi : i < 32) : W.cell? ⟨g, i, none⟩ = some (.int .u32 (lim m i)) := BlkAt.cell h (limA_at hi)
theorem MagAt.next {W W' : World} {g m : Nat} (h : MagAt W g m) (hb : Below W.heap.size W W') : MagAt W' g m := BlkAt.next h hb
theorem MagAt.drewN {W : World} {g m : Nat} (h : MagAt W g m) (n : Nat) : MagAt (W.drewN n) g m := BlkAt.drewN h n
theorem bdn (w : World) (a : Nat) : Below w.heap.size w (w.drewN a) := Go.below_drewN (Below.refl _ _) _
theorem bdn2 (w : World) (a b : Nat) : Below w.heap.size w ((w.drewN a).drewN b) := bnext (bdn w a) (bdn _ b)
set_option maxRecDepth 100000 in
theorem cmp_any {a b g k : Nat} {w : World} (ha : MagAt w g a) (hb : MagAt w k b) (la : a < bp 32) (lb : b < bp 32) : Calls Tryz.prog 216 #[.pointer (some ⟨g, 0, none⟩), .pointer (some ⟨k, 0, none⟩)] w (RetB (.int .i64 (cmpN a b)) w) := by
 have HA := Lib.hid ha
 have HB := Lib.hid hb
 have HE := Lib.hid (show a / bp 32 = b / bp 32 by rw [div_bp_zero la, div_bp_zero lb])
 clear ha hb la lb
 obtain ⟨v, hv⟩ : ∃ v, cmpN a b = v := ⟨_, rfl⟩
 rw [hv]
 have HV := Lib.hid hv
 clear hv
 go_enter Tryz.func216, Tryz.ntmps216
 go_wp2_with fail
 go_loopw [5] (fun iv wr => ∃ i : Nat, i ≤ 32 ∧ iv = .int .i64 ((i : Int) - 1) ∧ a / bp i = b / bp i ∧ Below w.heap.size w wr) (fun iv _ => (intOf iv + 1).toNat)
 case atStart => exact ⟨32, by omega, rfl, HE.out, Below.refl _ _⟩
 case round =>
  obtain ⟨i, hi, rfl, he, hbl⟩ := hrel
  have HEI := Lib.hid he
  have HBL := Lib.hid hbl
  clear he hbl HE
  cases i with
  | zero =>
   have h0 := cmpN_eq HEI.out
   rw [HV.out] at h0
   have H0 := Lib.hid h0
   clear h0
   go_wp2_with fail
   go_ret
   exact ⟨ret_int H0.out.symm, HBL.out⟩
  | succ i =>
   obtain ⟨s1, s2, s3⟩ := cmpN_step HEI.out
   have HS := Lib.hid (And.intro s1 (And.intro s2 s3))
   clear s1 s2 s3
   have c1 := (HA.out.next HBL.out).cell (show i < 32 by omega)
   have c2 := (HB.out.next HBL.out).cell (show i < 32 by omega)
   obtain ⟨x, hx⟩ : ∃ x, lim a i = x := ⟨_, rfl⟩
   obtain ⟨y, hy⟩ : ∃ y, lim b i = y := ⟨_, rfl⟩
   rw [hx] at c1
   rw [hy] at c2
   rw [hx, hy, HV.out] at HS
   have e1 : ((i + 1 : Nat) : Int) - 1 = (i : Int) := by omega
   rw [e1]
   have i0 : (0 : Int) ≤ (i : Int) := by omega
   have i1 : (i : Int) < 32 := by omega
   have i2 : i < 32 := by omega
   clear hx hy e1
   by_cases hlt : x < y
   ·have H0 := Lib.hid (HS.out.1 hlt)
    have g1 := decide_eq_true hlt
    clear HS
    go_wp2_with fail
    go_quiet (fail)
    go_wp2_with fail
    go_ret
    exact ⟨ret_int H0.out.symm, bnext HBL.out (Go.below_drewN (Below.refl _ _) _)⟩
   ·have g1 := decide_eq_false hlt
    by_cases hgt : y < x
    ·have H0 := Lib.hid (HS.out.2.1 hgt)
     have g2 := decide_eq_true hgt
     clear HS
     go_wp2_with fail
     go_quiet (fail)
     go_wp2_with fail
     go_quiet (fail)
     go_wp2_with fail
     go_ret
     exact ⟨ret_int H0.out.symm, bnext HBL.out (bdn2 _ _ _)⟩
    ·have g2 := decide_eq_false hgt
     have H0 := Lib.hid (HS.out.2.2 (by omega))
     clear HS
     go_wp2_with fail
     go_quiet (fail)
     go_wp2_with fail
     go_quiet (fail)
     go_wp2_with fail
     go_roundw
     case rel => exact ⟨i, by omega, by go_num, H0.out, bnext HBL.out (bdn _ _)⟩
     case measure => simp [intOf]
theorem used_ex (m : Nat) (h : m < bp 32) : ∃ n, n ≤ 32 ∧ Used m n := by
 have key : ∀ n, m < bp n → ∃ k, k ≤ n ∧ Used m k := by
  intro n
  induction n with
  | zero => exact fun h => ⟨0, Nat.le_refl _, h, .inl rfl⟩
  | succ n ih =>
   intro h
   by_cases h0 : lim m n = 0
   ·obtain ⟨k, hk, hu⟩ := ih (lt_pred h h0)
    exact ⟨k, by omega, hu⟩
   ·exact ⟨n + 1, Nat.le_refl _, h, .inr (le_of_lim h0)⟩
 exact key 32 h
set_option maxRecDepth 100000 in
theorem used_any {m g n : Nat} {w : World} (hm : MagAt w g m) (lm : m < bp 32) (hu : Used m n) : Calls Tryz.prog 199 #[.pointer (some ⟨g, 0, none⟩)] w (RetB (.int .i64 n) w) := by
 have HM := Lib.hid hm
 have HU := Lib.hid hu
 have HL := Lib.hid lm
 clear hm hu lm
 go_enter Tryz.func199, Tryz.ntmps199
 go_wp2_with fail
 go_loopw [3] (fun iv wr => ∃ i : Nat, i ≤ 32 ∧ iv = .int .i64 i ∧ m < bp i ∧ Below w.heap.size w wr) (fun iv _ => (intOf iv).toNat)
 case atStart => exact ⟨32, by omega, rfl, HL.out, Below.refl _ _⟩
 case round =>
  obtain ⟨i, hi, rfl, he, hbl⟩ := hrel
  have HEI := Lib.hid he
  have HBL := Lib.hid hbl
  clear he hbl HL
  cases i with
  | zero =>
   have H0 := Lib.hid (HU.out.unique ⟨HEI.out, .inl rfl⟩)
   go_wp2_with fail
   go_ret
   exact ⟨ret_int (by first | (rw [H0.out]; done) | (rw [H0.out]; rfl)), HBL.out⟩
  | succ i =>
   have c1 := (HM.out.next HBL.out).cell (show i < 32 by omega)
   obtain ⟨x, hx⟩ : ∃ x, lim m i = x := ⟨_, rfl⟩
   rw [hx] at c1
   have HX := Lib.hid hx
   have e1 : IntKind.i64.wrap (((i + 1 : Nat) : Int) - 1) = (i : Int) := by rw [show ((i + 1 : Nat) : Int) - 1 = (i : Int) by omega]; exact IntWalk.i64_in _ (by omega)
   have i0 : (0 : Int) ≤ (i : Int) := by omega
   have i1 : (i : Int) < 32 := by omega
   have i2 : i < 32 := by omega
   have i3 : (0 : Int) < (i : Int) + 1 := by omega
   clear hx
   by_cases h0 : x = 0
   ·have H0 := Lib.hid (lt_pred HEI.out (by rw [HX.out]; exact h0))
    subst h0
    clear HX
    go_wp2_with fail
    go_roundw
    case rel => exact ⟨i, by omega, by go_num, H0.out, HBL.out⟩
    case measure => simp [intOf]
   ·have H0 := Lib.hid (HU.out.unique ⟨HEI.out, .inr (le_of_lim (by rw [Nat.add_sub_cancel, HX.out]; exact h0))⟩)
    have g1 : ((x : Int) == 0) = false := by rw [beq_eq_false_iff_ne]; omega
    clear HX
    go_wp2_with fail
    go_ret
    exact ⟨ret_int (by first | (rw [H0.out]; done) | (rw [H0.out]; rfl)), HBL.out⟩
theorem magZ : limA 32 0 = #[.int .u32 0, .int .u32 0, .int .u32 0, .int .u32 0, .int .u32 0, .int .u32 0, .int .u32 0, .int .u32 0, .int .u32 0, .int .u32 0, .int .u32 0, .int .u32 0, .int .u32 0, .int .u32 0, .int .u32 0, .int .u32 0, .int .u32 0, .int .u32 0, .int .u32 0, .int .u32 0, .int .u32 0, .int .u32 0, .int .u32 0, .int .u32 0, .int .u32 0, .int .u32 0, .int .u32 0, .int .u32 0, .int .u32 0, .int .u32 0, .int .u32 0, .int .u32 0] := by rw [limA_zero]; rfl
theorem MagAt.zero {W : World} {g : Nat} (h : BlkAt W g #[.int .u32 0, .int .u32 0, .int .u32 0, .int .u32 0, .int .u32 0, .int .u32 0, .int .u32 0, .int .u32 0, .int .u32 0, .int .u32 0, .int .u32 0, .int .u32 0, .int .u32 0, .int .u32 0, .int .u32 0, .int .u32 0, .int .u32 0, .int .u32 0, .int .u32 0, .int .u32 0, .int .u32 0, .int .u32 0, .int .u32 0, .int .u32 0, .int .u32 0, .int .u32 0, .int .u32 0, .int .u32 0, .int .u32 0, .int .u32 0, .int .u32 0, .int .u32 0] 155) : MagAt W g 0 := BlkAt.is h magZ.symm
theorem MagAt.set {W : World} {g m i d : Nat} (h : MagAt W g m) (hd : d < 4294967296) : MagAt (W.setCell ⟨g, i, none⟩ (.int .u32 d)) g (setM m i d) := BlkAt.is (BlkAt.cellSet h i _) (limA_set hd)
theorem MagAt.far {W : World} {g k m i : Nat} {v : Value} (h : MagAt W g m) (hn : g ≠ k) : MagAt (W.setCell ⟨k, i, none⟩ v) g m := BlkAt.cellFar h i v hn
theorem carry_le {a b c i k : Nat} (h : c + k * bp i = a % bp i + b % bp i) : k ≤ 1 := by
 have h1 := Nat.mod_lt a (bp_pos i)
 have h2 := Nat.mod_lt b (bp_pos i)
 rcases Nat.lt_or_ge 1 k with h3 | h3
 ·have := Nat.mul_le_mul_right (bp i) (show 2 ≤ k from h3)
  omega
 ·exact h3
set_option maxRecDepth 100000 in
theorem plus_any {a b g k : Nat} {w : World} (ha : MagAt w g a) (hb : MagAt w k b) (la : a < bp 32) (lb : b < bp 32) {c : Nat} {f : Bool} (hc : (a + b) % bp 32 = c) (hf : decide (a + b < bp 32) = f) : Calls Tryz.prog 197 #[.pointer (some ⟨g, 0, none⟩), .pointer (some ⟨k, 0, none⟩)] w (RetB (.tuple #[.agg (limA 32 c), .bool f]) w) := by
 have hgl := BlkAt.lt ha
 have hkl := BlkAt.lt hb
 have hbl := bal (bal0 w (.cells #[.int .u32 0, .int .u32 0, .int .u32 0, .int .u32 0, .int .u32 0, .int .u32 0, .int .u32 0, .int .u32 0, .int .u32 0, .int .u32 0, .int .u32 0, .int .u32 0, .int .u32 0, .int .u32 0, .int .u32 0, .int .u32 0, .int .u32 0, .int .u32 0, .int .u32 0, .int .u32 0, .int .u32 0, .int .u32 0, .int .u32 0, .int .u32 0, .int .u32 0, .int .u32 0, .int .u32 0, .int .u32 0, .int .u32 0, .int .u32 0, .int .u32 0, .int .u32 0] 155)) (.cells #[.int .u32 0, .int .u32 0, .int .u32 0, .int .u32 0, .int .u32 0, .int .u32 0, .int .u32 0, .int .u32 0, .int .u32 0, .int .u32 0, .int .u32 0, .int .u32 0, .int .u32 0, .int .u32 0, .int .u32 0, .int .u32 0, .int .u32 0, .int .u32 0, .int .u32 0, .int .u32 0, .int .u32 0, .int .u32 0, .int .u32 0, .int .u32 0, .int .u32 0, .int .u32 0, .int .u32 0, .int .u32 0, .int .u32 0, .int .u32 0, .int .u32 0, .int .u32 0] 155)
 have HA := Lib.hid (ha.next hbl)
 have HB := Lib.hid (hb.next hbl)
 have HR := Lib.hid (show MagAt ((w.alloc (.cells #[.int .u32 0, .int .u32 0, .int .u32 0, .int .u32 0, .int .u32 0, .int .u32 0, .int .u32 0, .int .u32 0, .int .u32 0, .int .u32 0, .int .u32 0, .int .u32 0, .int .u32 0, .int .u32 0, .int .u32 0, .int .u32 0, .int .u32 0, .int .u32 0, .int .u32 0, .int .u32 0, .int .u32 0, .int .u32 0, .int .u32 0, .int .u32 0, .int .u32 0, .int .u32 0, .int .u32 0, .int .u32 0, .int .u32 0, .int .u32 0, .int .u32 0, .int .u32 0] 155)).alloc (.cells #[.int .u32 0, .int .u32 0, .int .u32 0, .int .u32 0, .int .u32 0, .int .u32 0, .int .u32 0, .int .u32 0, .int .u32 0, .int .u32 0, .int .u32 0, .int .u32 0, .int .u32 0, .int .u32 0, .int .u32 0, .int .u32 0, .int .u32 0, .int .u32 0, .int .u32 0, .int .u32 0, .int .u32 0, .int .u32 0, .int .u32 0, .int .u32 0, .int .u32 0, .int .u32 0, .int .u32 0, .int .u32 0, .int .u32 0, .int .u32 0, .int .u32 0, .int .u32 0] 155)) w.heap.size 0 from MagAt.zero ((BlkAt.new _ _ _).al _))
 have HZ := Lib.hid (show MagAt ((w.alloc (.cells #[.int .u32 0, .int .u32 0, .int .u32 0, .int .u32 0, .int .u32 0, .int .u32 0, .int .u32 0, .int .u32 0, .int .u32 0, .int .u32 0, .int .u32 0, .int .u32 0, .int .u32 0, .int .u32 0, .int .u32 0, .int .u32 0, .int .u32 0, .int .u32 0, .int .u32 0, .int .u32 0, .int .u32 0, .int .u32 0, .int .u32 0, .int .u32 0, .int .u32 0, .int .u32 0, .int .u32 0, .int .u32 0, .int .u32 0, .int .u32 0, .int .u32 0, .int .u32 0] 155)).alloc (.cells #[.int .u32 0, .int .u32 0, .int .u32 0, .int .u32 0, .int .u32 0, .int .u32 0, .int .u32 0, .int .u32 0, .int .u32 0, .int .u32 0, .int .u32 0, .int .u32 0, .int .u32 0, .int .u32 0, .int .u32 0, .int .u32 0, .int .u32 0, .int .u32 0, .int .u32 0, .int .u32 0, .int .u32 0, .int .u32 0, .int .u32 0, .int .u32 0, .int .u32 0, .int .u32 0, .int .u32 0, .int .u32 0, .int .u32 0, .int .u32 0, .int .u32 0, .int .u32 0] 155)) (w.heap.size + 1) 0 from MagAt.zero (BlkAt.newAt _ _ _ (by simp)))
 have HBL := Lib.hid hbl
 have HC := Lib.hid hc
 have HF := Lib.hid hf
 have HL := Lib.hid (And.intro la lb)
 clear ha hb la lb hc hf hbl
 go_enter Tryz.func197, Tryz.ntmps197
 go_wp2_with fail
 generalize (w.alloc _).alloc _ = w0 at *
 have hne1 : g ≠ w.heap.size + 1 := by omega
 have hne2 : k ≠ w.heap.size + 1 := by omega
 have hne3 : w.heap.size ≠ w.heap.size + 1 := by omega
 have hge : w.heap.size ≤ w.heap.size + 1 := by omega
 have HNE := Lib.hid (And.intro hne1 (And.intro hne2 (And.intro hne3 hge)))
 clear hne1 hne2 hne3 hge hgl hkl
 go_loopw [7, 9] (fun cv iv wr => ∃ i q s : Nat, i ≤ 32 ∧ cv = .int .u32 q ∧ iv = .int .i64 i ∧ s < bp i ∧ s + q * bp i = a % bp i + b % bp i ∧ MagAt wr (w.heap.size + 1) s ∧ MagAt wr w.heap.size 0 ∧ MagAt wr g a ∧ MagAt wr k b ∧ Below w.heap.size w wr) (fun _ iv _ => 32 - (intOf iv).toNat)
 case atStart => exact ⟨0, 0, 0, by omega, rfl, rfl, bp_pos 0, by rw [bp_zero]; omega, HZ.out, HR.out, HA.out, HB.out, HBL.out⟩
 case round =>
  obtain ⟨i, q, s, hi, rfl, rfl, hs, hq, hZ, hR, hA, hB, hbl⟩ := hrel
  have HS := Lib.hid (And.intro hs hq)
  have HM := Lib.hid (And.intro hZ (And.intro hR (And.intro hA (And.intro hB hbl))))
  have hq1 := carry_le hq
  clear hs hq hZ hR hA hB hbl HZ HR HA HB HBL
  by_cases hlt : i < 32
  ·obtain ⟨x, hx⟩ : ∃ x, lim a i = x := ⟨_, rfl⟩
   obtain ⟨y, hy⟩ : ∃ y, lim b i = y := ⟨_, rfl⟩
   have hx1 := lim_lt a i
   have hy1 := lim_lt b i
   obtain ⟨p1, p2⟩ := plus_step HS.out.1 HS.out.2
   have hd := Nat.mod_lt (lim a i + lim b i + q) (show 0 < 4294967296 by omega)
   obtain ⟨d, hdd⟩ : ∃ d, (lim a i + lim b i + q) % 4294967296 = d := ⟨_, rfl⟩
   obtain ⟨q', hqq⟩ : ∃ q', (lim a i + lim b i + q) / 4294967296 = q' := ⟨_, rfl⟩
   rw [hdd] at p1 p2 hd
   rw [hqq] at p2
   rw [hx, hy] at hdd hqq
   have HDQ := Lib.hid (And.intro hdd hqq)
   rw [hx] at hx1
   rw [hy] at hy1
   have HD := Lib.hid (HM.out.2.2.1.next (Below.refl _ _).drew)
   have HE := Lib.hid (HM.out.2.2.2.1.next (Below.refl _ _).drew)
   have HZD := Lib.hid (HM.out.1.next (Below.refl _ _).drew)
   have HRD := Lib.hid (HM.out.2.1.next (Below.refl _ _).drew)
   have HBD := Lib.hid (bnext HM.out.2.2.2.2 (Below.refl _ _).drew)
   have c1 : Hid (∀ W : World, MagAt W g a → W.cell? ⟨g, i, none⟩ = some (.int .u32 x)) := Lib.hid (fun W h => by rw [← hx]; exact h.cell hlt)
   have c2 : Hid (∀ W : World, MagAt W k b → W.cell? ⟨k, i, none⟩ = some (.int .u32 y)) := Lib.hid (fun W h => by rw [← hy]; exact h.cell hlt)
   have cst := HM.out.1.cell hlt
   have fst := BlkAt.fz HM.out.1 i
   have i0 : (0 : Int) ≤ (i : Int) := by omega
   have i1 : (i : Int) < 32 := by omega
   have HP := Lib.hid (And.intro p1 (And.intro p2 hd))
   clear p1 p2 hd hx hy hdd hqq
   go_wp2_with fail
   go_region_held3 (fun W => W.cell? ⟨g, i, none⟩ = some (.int .u32 x) ∧ W.cell? ⟨k, i, none⟩ = some (.int .u32 y))
    ((first
     | (with_reducible exact ⟨c1.out _ HD.out, c2.out _ HE.out⟩)
     | (with_reducible exact ⟨c1.out _ ((HM.out.2.2.1.far HNE.out.1).next (Below.refl _ _).drew), c2.out _ ((HM.out.2.2.2.1.far HNE.out.2.1).next (Below.refl _ _).drew)⟩)))
    ((go_at_call 228; refine (add32_any x y q hx1 hy1 (by omega) HDQ.out.1 HDQ.out.2 _).mono ?_; rintro e w3 ⟨rfl, rfl⟩))
   have HN := Lib.hid (show MagAt ((wr.setCell ⟨w.heap.size + 1, i, none⟩ (.int .u32 d)).drew) (w.heap.size + 1) (setM s i d) ∧ MagAt ((wr.setCell ⟨w.heap.size + 1, i, none⟩ (.int .u32 d)).drew) w.heap.size 0 ∧ MagAt ((wr.setCell ⟨w.heap.size + 1, i, none⟩ (.int .u32 d)).drew) g a ∧ MagAt ((wr.setCell ⟨w.heap.size + 1, i, none⟩ (.int .u32 d)).drew) k b ∧ Below w.heap.size w ((wr.setCell ⟨w.heap.size + 1, i, none⟩ (.int .u32 d)).drew) from
    ⟨(HM.out.1.set HP.out.2.2).next (Below.refl _ _).drew, (HM.out.2.1.far HNE.out.2.2.1).next (Below.refl _ _).drew, (HM.out.2.2.1.far HNE.out.1).next (Below.refl _ _).drew, (HM.out.2.2.2.1.far HNE.out.2.1).next (Below.refl _ _).drew, bnext (HM.out.2.2.2.2.setCell HNE.out.2.2.2 _) (Below.refl _ _).drew⟩)
   clear HD HE HZD HRD HBD c1 c2 cst fst HM
   go_wp2_with fail
   go_roundw
   case rel => exact ⟨i + 1, q', setM s i d, by omega, rfl, by go_num, HP.out.1, HP.out.2.1, HN.out⟩
   case measure => simp [intOf]; omega
  ·obtain rfl : i = 32 := by omega
   rw [Nat.mod_eq_of_lt HL.out.1, Nat.mod_eq_of_lt HL.out.2] at HS
   have hsv : s = c := by
    rw [← HC.out, ← HS.out.2, Nat.add_mul_mod_self_right, Nat.mod_eq_of_lt HS.out.1]
   have hfv : decide (q = 0) = f := by
    rw [← HF.out, ← HS.out.2]
    have h1 := HS.out.1
    have h2 := bp_pos 32
    congr 1
    rw [eq_iff_iff]
    constructor
    ·rintro rfl
     omega
    ·intro h
     rcases Nat.lt_or_ge 0 q with h3 | h3
     ·have := Nat.mul_le_mul_right (bp 32) h3
      omega
     ·omega
   subst hsv
   have HFV := Lib.hid hfv
   clear hfv HS HC HF
   have HRW := Lib.hid (BlkAt.lt HM.out.2.1)
   have HBB := Lib.hid (Below.setRow HM.out.2.2.2.2 (Nat.le_refl _) (limA 32 s))
   have HRR := Lib.hid (show BlkAt (wr.setRow w.heap.size (limA 32 s)) w.heap.size (limA 32 s) 155 from HM.out.2.1.blk.set _)
   have g1 : ((q : Int) == 0) = f := by
    rw [← HFV.out]
    by_cases h : q = 0
    ·simp [h]
    ·rw [decide_eq_false h, beq_eq_false_iff_ne]
     omega
   go_wp2_with (first | ((with_reducible refine wpl_load rfl 155 _ rfl _ ?_ HM.out.1.blk (rowMag _) ?_); exact rfl) | ((with_reducible refine wpl_store rfl 155 _ _ rfl _ (limA 32 s) ?_ ?_ HM.out.2.1.blk (rowMag _) ?_ ?_); exact rfl; exact rfl; exact (by rw [limA_size, limA_size])))
   exact bodyPost_ret (res_cs rfl rfl rfl HRR.out (rowMag _)) rfl ⟨rfl, HBB.out⟩
section
variable {P : Program}
theorem eq_loop {e : TypeId} {D n : Nat} (xs ys : Nat → Int) {A B : Array Value} (hA : ∀ (i : Nat) (w : World), i < n → (part e A (i * 1)).run P w = .ok (.int .u32 (xs i)) w) (hB : ∀ (i : Nat) (w : World), i < n → (part e B (i * 1)).run P w = .ok (.int .u32 (ys i)) w)
  (hD : ∀ (a b : Int) (w : World), (Op.equalIn D e (.int .u32 a) (.int .u32 b)).run P w = .ok (a == b) w) : ∀ (k i : Nat) (w : World), i + k ≤ n →
  (forIn (List.range' i k) ((none : Option Bool), ()) fun i __s => do
    let __do_lift ← part e A (i * 1)
    let __do_lift_1 ← part e B (i * 1)
    let __do_lift ← Op.equalIn D e __do_lift __do_lift_1
    if (!__do_lift) = true then pure (ForInStep.done (some false, ())) else pure (ForInStep.yield (none, ()))).run P w = .ok (if (List.range' i k).all (fun j => xs j == ys j) = true then (none, ()) else (some false, ())) w
 | 0, i, w, _ => by simp
 | k + 1, i, w, h => by
  rw [List.range'_succ, List.forIn_cons, List.all_cons]
  simp only [Sem.run_bind, hA i _ (show i < n by omega), hB i _ (show i < n by omega), hD, Result.andThen_ok]
  cases hb : xs i == ys i
  ·simp only [Bool.not_false, if_true, Bool.false_and, Bool.false_eq_true, if_false, Sem.run_pure, Result.andThen_ok]
  ·simp only [Bool.not_true, Bool.false_eq_true, if_false, Bool.true_and, Sem.run_pure, Result.andThen_ok]
   exact eq_loop xs ys hA hB hD k (i + 1) w (by omega)
end
theorem mag_und : ∃ e, Tryz.prog.underlying 155 = some (.array 32 e) ∧ Tryz.prog.underlying e = some (.int .u32) ∧ (Tryz.prog.info? e).map (·.size) = some 1 := ⟨_, Tryz.underlying155, by kernel_rfl, by kernel_rfl⟩
theorem eq_arr (d m k : Nat) (w : World) (hm : m < bp 32) (hk : k < bp 32) : (Op.equalIn (d + 2) 155 (.agg (limA 32 m)) (.agg (limA 32 k))).run Tryz.prog w = .ok (decide (m = k)) w := by
 obtain ⟨e, h1, h2, h3⟩ := mag_und
 have hD : ∀ (a b : Int) (w : World), (Op.equalIn (d + 1) e (.int .u32 a) (.int .u32 b)).run Tryz.prog w = .ok (a == b) w := fun a b w => run_equalIn_int w d e .u32 .u32 a b h2
 generalize hDD : d + 1 = D at hD
 rw [show d + 2 = D + 1 by omega]
 have hs : ∀ w, (sizeOf e).run Tryz.prog w = .ok 1 w := by
  intro w
  cases hi : Tryz.prog.info? e with
  | none => rw [hi] at h3; cases h3
  | some i =>
   rw [hi] at h3
   simp at h3
   simp [sizeOf, typeInfo, hi, h3]
 have hp : ∀ (n i : Nat) (w : World), i < 32 → (part e (limA 32 n) (i * 1)).run Tryz.prog w = .ok (.int .u32 (lim n i)) w := by
  intro n i w hi
  have ha : (isAgg e).run Tryz.prog w = .ok false w := by simp [isAgg, run_underlying h2]
  simp [part, ha, limA_at hi]
 simp only [Op.equalIn, Sem.run_bind, run_underlying h1, hs, Result.andThen_ok, Std.Legacy.Range.forIn_eq_forIn_range', Std.Legacy.Range.size, Nat.sub_zero, Nat.add_sub_cancel, Nat.div_one]
 rw [eq_loop (fun i => (lim m i : Int)) (fun i => (lim k i : Int)) (hp m) (hp k) hD 32 0 w (by omega)]
 have key : ((List.range' 0 32).all (fun j => (lim m j : Int) == (lim k j : Int))) = decide (m = k) := by
  by_cases h : m = k
  ·subst h
   simp
  ·rw [decide_eq_false h, Bool.eq_false_iff]
   intro hc2
   rw [List.all_eq_true] at hc2
   refine h (eq_of_lims 32 hm hk (fun j hj => ?_))
   have := hc2 j (by simp; omega)
   simp at this
   omega
 rw [key]
 by_cases h : m = k
 ·simp [h]
 ·simp [h]
end
section
section
open Go.RowKit
structure OwnL (W0 W : World) (e : TypeId) (sz : Nat) (v : Value) (n : Nat) (xs : List Value) : Prop where
 below : Below W0.heap.size W0 W
 own : W.ownsRow W0.heap.size e sz v n xs
section
variable {W0 W W' : World} {e : TypeId} {sz : Nat} {v v' : Value} {n n' : Nat} {xs xs' : List Value}
theorem grown_below {W W' : World} (hb : Below W.heap.size W W') (r : Option Nat) : W.grownBy W' r := ⟨hb.os, hb.tape, hb.output, hb.size, fun i hi _ => hb.block i hi⟩
theorem own_next {B : Nat} (h : W.ownsRow B e sz v n xs) (hb : Below W.heap.size W W') : W'.ownsRow B e sz v n xs := by
 refine h.kept (grown_below hb none) ?_
 cases v.ownBlock with
 | none => exact .inl rfl
 | some k => exact .inr (fun e => by cases e)
theorem OwnL.next (h : OwnL W0 W e sz v n xs) (hb : Below W.heap.size W W') : OwnL W0 W' e sz v n xs := ⟨bnext h.below hb, own_next h.own hb⟩
theorem OwnL.start (W0 : World) (e : TypeId) (sz : Nat) : OwnL W0 W0 e sz (.slice none 0 0) 0 [] := ⟨Below.refl _ _, World.ownsRow_nil _ _ _ _⟩
theorem OwnL.pushed (h : OwnL W0 W e sz v n xs) (hg : W.grownBy W' v.ownBlock) (hown : W'.ownsRow W0.heap.size e sz v' n' xs') : OwnL W0 W' e sz v' n' xs' :=
 ⟨⟨hg.os.trans h.below.os, hg.tape.trans h.below.tape, hg.output.trans h.below.output, Nat.le_trans h.below.size hg.size, fun i hi => (hg.block i (Nat.lt_of_lt_of_le hi h.below.size) (fun e => by have := (h.own.lt i e.symm).1; omega)).trans (h.below.block i hi)⟩, hown⟩
theorem OwnL.read (h : OwnL W0 W e sz v n xs) : ∃ A cap, v = .slice A n cap ∧ ∀ j u, xs[j]? = some u → ∃ g, A = some ⟨g, 0, none⟩ ∧ g < W.heap.size ∧ W.cell? ⟨g, j, none⟩ = some u := by
 rcases h.own.2 with ⟨rfl, h0⟩ | ⟨g, cap, cur, rfl, hgb, hh, hle, _, hsz, ht⟩
 ·refine ⟨none, 0, by rw [h0], fun j u hu => ?_⟩
  have := h.own.1
  rw [h0] at this
  simp at this
  rw [this] at hu
  simp at hu
 ·refine ⟨some ⟨g, 0, none⟩, cap, rfl, fun j u hu => ⟨g, rfl, (Array.getElem?_eq_some_iff.1 hh).1, ?_⟩⟩
  have := h.own.cells (g := g) rfl j u hu
  rw [Go.WideShapes.add_plain] at this
  simpa using this
end
end
section
open Go.RowKit
structure RecsAt (W : World) (A : Option Addr) (n : Nat) (L : List (List Value)) : Prop where
 ln : L.length ≤ 9223372036854775807
 rows : ∀ k r, L[k]? = some r → ∃ b o, A = some ⟨b, o, none⟩ ∧ b < W.heap.size ∧ ∀ j v, r[j]? = some v → W.cell? ⟨b, o + k * n + j, none⟩ = some v
section
variable {W W' : World} {A : Option Addr} {n : Nat} {L : List (List Value)}
theorem RecsAt.below (h : RecsAt W A n L) (hb : Below W.heap.size W W') : RecsAt W' A n L :=
 ⟨h.ln, fun k r hr => by
  obtain ⟨b, o, hA, hlt, hc⟩ := h.rows k r hr
  exact ⟨b, o, hA, Nat.lt_of_lt_of_le hlt hb.size, fun j v hj => (hb.cell (p := ⟨b, _, none⟩) hlt).trans (hc j v hj)⟩⟩
theorem RecsAt.nil (W : World) (n : Nat) (A : Option Addr) : RecsAt W A n [] := ⟨by simp, fun k r h => by simp at h⟩
theorem RecsAt.keep (h : RecsAt W A n L) (hs : W.heap.size ≤ W'.heap.size) (he : ∀ (k : Nat) (r : List Value), L[k]? = some r → ∀ ad : Addr, A = some ad → W'.heap[ad.block]? = W.heap[ad.block]?) : RecsAt W' A n L :=
 ⟨h.ln, fun k r hr => by
  obtain ⟨b, o, hA, hlt, hc⟩ := h.rows k r hr
  exact ⟨b, o, hA, Nat.lt_of_lt_of_le hlt hs, fun j v hj => (World.cell?_of_block (w := W) (a := ⟨b, o + k * n + j, none⟩) (he k r hr ⟨b, o, none⟩ hA)).trans (hc j v hj)⟩⟩
theorem RecsAt.grown {g : Option Nat} (h : RecsAt W A n L) (hg : W.grownBy W' g) (hf : ∀ (k : Nat) (r : List Value), L[k]? = some r → ∀ ad : Addr, A = some ad → g ≠ some ad.block) : RecsAt W' A n L :=
 h.keep hg.size fun k r hr ad hA => by
  obtain ⟨b, o, hA2, hlt, _⟩ := h.rows k r hr
  rw [hA] at hA2
  injection hA2 with e
  subst e
  exact hg.block _ hlt (fun e => hf k r hr _ hA e.symm)
def UnderA (A : Option Addr) (L : List (List Value)) (B : Nat) : Prop := ∀ (k : Nat) (r : List Value), L[k]? = some r → ∀ ad : Addr, A = some ad → ad.block < B
theorem RecsAt.under (h : RecsAt W A n L) : UnderA A L W.heap.size := fun k r hr ad hA => by
 obtain ⟨b, o, hA2, hlt, _⟩ := h.rows k r hr
 rw [hA] at hA2
 injection hA2 with e
 subst e
 exact hlt
end
theorem flat_get {n : Nat} : ∀ (L : List (List Value)) (k : Nat) (r : List Value), (∀ x ∈ L, x.length = n) → L[k]? = some r → ∀ j v, r[j]? = some v → L.flatten[k * n + j]? = some v
 | [], k, r, _, h, j, v, _ => by simp at h
 | x :: L, 0, r, hn, h, j, v, hj => by
  simp at h
  subst h
  have hl : j < x.length := (List.getElem?_eq_some_iff.1 hj).1
  simp only [List.flatten_cons, Nat.zero_mul, Nat.zero_add]
  rw [List.getElem?_append_left hl]
  exact hj
 | x :: L, k + 1, r, hn, h, j, v, hj => by
  have hx := hn x (by simp)
  have ih := flat_get L k r (fun y hy => hn y (by simp [hy])) (by simpa using h) j v hj
  simp only [List.flatten_cons]
  rw [List.getElem?_append_right (by rw [hx, Nat.succ_mul]; omega), hx, show (k + 1) * n + j - n = k * n + j by rw [Nat.succ_mul]; omega]
  exact ih
theorem flat_len {n : Nat} : ∀ (L : List (List Value)), (∀ x ∈ L, x.length = n) → L.flatten.length = L.length * n
 | [], _ => by simp
 | x :: L, hn => by
  have hx := hn x (by simp)
  have ih := flat_len L (fun y hy => hn y (by simp [hy]))
  simp only [List.flatten_cons, List.length_append, List.length_cons, ih, hx, Nat.succ_mul]
  omega
theorem OwnL.recs {W0 W : World} {e : TypeId} {sz : Nat} {v : Value} {n : Nat} {L : List (List Value)} (h : OwnL W0 W e sz v n L.flatten) (hL : ∀ x ∈ L, x.length = sz) (hs : 0 < sz) (hl : L.length ≤ 9223372036854775807) :
  n = L.length ∧ ∃ A cap, v = .slice A n cap ∧ RecsAt W A sz L ∧ (∀ ad, A = some ad → W0.heap.size ≤ ad.block ∧ ad.block < W.heap.size) := by
 have hf := flat_len L hL
 have hx := h.own.1
 have hn : n = L.length := Nat.eq_of_mul_eq_mul_right hs (by omega)
 obtain ⟨A, cap, rfl, hc⟩ := h.read
 refine ⟨hn, A, cap, rfl, ⟨hl, fun k r hr => ?_⟩, fun ad e => ?_⟩
 ·have hm : r ∈ L := List.mem_of_getElem? hr
  have hr0 : 0 < r.length := by rw [hL r hm]; exact hs
  obtain ⟨g, hA, hg, _⟩ := hc (k * sz + 0) r[0] (flat_get L k r hL hr 0 _ (List.getElem?_eq_getElem hr0))
  refine ⟨g, 0, hA, hg, fun j u hu => ?_⟩
  obtain ⟨g2, hA2, _, hcell⟩ := hc (k * sz + j) u (flat_get L k r hL hr j u hu)
  rw [hA] at hA2
  injection hA2 with e1
  injection e1 with e2
  subst e2
  rw [Nat.zero_add]
  exact hcell
 ·subst e
  exact h.own.lt ad.block rfl
end
section
open Go.RowKit
def suV (x : SU) : Array Value := #[.string x.key, .string x.fund, .int .i64 x.frm, .int .i64 x.til, .int .i64 x.known, .bool x.void]
def mkV (m : MK) : Array Value := #[.string m.key, .int .i64 m.known, .bool m.void]
theorem rowMark : RowT Tryz.prog 94 3 := ⟨⟨_, Tryz.underlying94, rfl⟩, by kernel_rfl⟩
theorem rowMk (m : MK) : RowV Tryz.prog 94 (mkV m) := ⟨rowMark, by simp [mkV, Value.oneCell']⟩
def SU.small (x : SU) : Prop := x.key.size ≤ maxLen ∧ x.fund.size ≤ maxLen
structure SuAt (W : World) (A : Option Addr) (l : List SU) : Prop where
 recs : RecsAt W A 6 (l.map fun x => (suV x).toList)
 small : ∀ x ∈ l, x.small
theorem SuAt.below {W W' : World} {A : Option Addr} {l : List SU} (h : SuAt W A l) (hb : Below W.heap.size W W') : SuAt W' A l := ⟨h.recs.below hb, h.small⟩
theorem SuAt.ln {W : World} {A : Option Addr} {l : List SU} (h : SuAt W A l) : l.length ≤ 9223372036854775807 := by simpa using h.recs.ln
theorem SuAt.get {W : World} {A : Option Addr} {l : List SU} (h : SuAt W A l) {i : Nat} (hi : i < l.length) : ∃ b o x, A = some ⟨b, o, none⟩ ∧ l[i]? = some x ∧ b < W.heap.size ∧ x.small ∧
  W.cell? ⟨b, o + i * 6, none⟩ = some (.string x.key) ∧ W.cell? ⟨b, o + i * 6 + 1, none⟩ = some (.string x.fund) ∧ W.cell? ⟨b, o + i * 6 + 2, none⟩ = some (.int .i64 x.frm) ∧
  W.cell? ⟨b, o + i * 6 + 3, none⟩ = some (.int .i64 x.til) ∧ W.cell? ⟨b, o + i * 6 + 4, none⟩ = some (.int .i64 x.known) ∧ W.cell? ⟨b, o + i * 6 + 5, none⟩ = some (.bool x.void) := by
 have hx : l[i]? = some l[i] := List.getElem?_eq_getElem hi
 obtain ⟨b, o, hA, hlt, hc⟩ := h.recs.rows i (suV l[i]).toList (by rw [List.getElem?_map, hx]; rfl)
 exact ⟨b, o, l[i], hA, hx, hlt, h.small _ (List.getElem_mem hi), hc 0 _ rfl, hc 1 _ rfl, hc 2 _ rfl, hc 3 _ rfl, hc 4 _ rfl, hc 5 _ rfl⟩
structure MkAt (W : World) (A : Option Addr) (l : List MK) : Prop where
 recs : RecsAt W A 3 (l.map fun x => (mkV x).toList)
 small : ∀ x ∈ l, x.key.size ≤ maxLen
theorem MkAt.below {W W' : World} {A : Option Addr} {l : List MK} (h : MkAt W A l) (hb : Below W.heap.size W W') : MkAt W' A l := ⟨h.recs.below hb, h.small⟩
theorem MkAt.ln {W : World} {A : Option Addr} {l : List MK} (h : MkAt W A l) : l.length ≤ 9223372036854775807 := by simpa using h.recs.ln
theorem MkAt.get {W : World} {A : Option Addr} {l : List MK} (h : MkAt W A l) {i : Nat} (hi : i < l.length) : ∃ b o x, A = some ⟨b, o, none⟩ ∧ l[i]? = some x ∧ b < W.heap.size ∧ x.key.size ≤ maxLen ∧
  W.cell? ⟨b, o + i * 3, none⟩ = some (.string x.key) ∧ W.cell? ⟨b, o + i * 3 + 1, none⟩ = some (.int .i64 x.known) ∧ W.cell? ⟨b, o + i * 3 + 2, none⟩ = some (.bool x.void) := by
 have hx : l[i]? = some l[i] := List.getElem?_eq_getElem hi
 obtain ⟨b, o, hA, hlt, hc⟩ := h.recs.rows i (mkV l[i]).toList (by rw [List.getElem?_map, hx]; rfl)
 exact ⟨b, o, l[i], hA, hx, hlt, h.small _ (List.getElem_mem hi), hc 0 _ rfl, hc 1 _ rfl, hc 2 _ rfl⟩
end
section
open Go.RowKit
section
variable {P : Program} {md : Region.Mode} {ops : Array Oper} {Q : Exit → Act → World → Prop}
theorem rg_take (i d : Nat) {oi : Oper} {tmps : List Value} {ds : List Deferred} {v : Value} {fuel : Nat} {listed : Array Bool} {w : World} (hi : ops[i]? = some oi) (hd : oi.dst = some d)
  (hs : Region.noSelect ops = true) (hf : Region.free md ops listed i = true) (hr : (Region.ready md ops listed).contains i = true)
  (hQ : ∀ c a w, Q (.panic c) (a.put oi.dst v) w → Q (.panic c) a w) (hy : Yields P ops oi v ⟨⟨tmps⟩, ds⟩)
  (h : wpAny P md ops Q fuel (listed.setIfInBounds i true) ⟨⟨tmps.set d v⟩, ds⟩ w) : wpAny P md ops Q (fuel + 1) listed ⟨⟨tmps⟩, ds⟩ w := by
 refine wpAny_take hi hs hf hr hQ hy ?_
 rw [hd]
 simpa [Act.put] using h
end
end
section
open Go.RowKit
def spl (cs : Array Value) (o : Nat) : List Value → Array Value
 | [] => cs
 | v :: r => spl (cs.setIfInBounds o v) (o + 1) r
theorem setRow_self {b : Nat} {t : TypeId} {cs : Array Value} {w : World} (h : BlkAt w b cs t) : w.setRow b cs = w := by
 have e : (w.setRow b cs).heap = w.heap := by
  apply Array.ext_getElem?
  intro i
  by_cases hi : i = b
  ·subst hi
   rw [(h.set cs).blk, h.blk]
  ·exact setRow_other w b i cs hi
 have e2 : w.setRow b cs = { w with heap := (w.setRow b cs).heap } := rfl
 rw [e2, e]
theorem setCells_row {b : Nat} {t : TypeId} : ∀ (l : List Value) (o : Nat) (cs : Array Value) (w : World), BlkAt w b cs t → w.setCells b o l = w.setRow b (spl cs o l)
 | [], o, cs, w, h => (setRow_self h).symm
 | v :: r, o, cs, w, h => by
  show (w.setCell ⟨b, o, none⟩ v).setCells b (o + 1) r = w.setRow b (spl (cs.setIfInBounds o v) (o + 1) r)
  rw [setCells_row r (o + 1) _ _ (h.cellSet o v), setCell_eq_setRow w b o cs t (0, 0) v h.blk, setRow_setRow]
section
variable {P : Program} {ops : Array Oper} {rest : List Oper} {o : Oper} {a : Act} {w : World} {Q : Exit → Act → World → Prop}
theorem wpl_load_mid (hgd : o.guard = none) (T : TypeId) (x : Operand) (ho : o.op = .load T x) (g k : Nat) (hx : a.eval x = .pointer (some ⟨g, k, none⟩)) {t : TypeId} {cs : Array Value} (hb : BlkAt w g cs t) {ds : Array Value} (hd : (cs.toList.drop k).take ds.size = ds.toList) (hr : RowV P T ds)
  (h : wpList P ops Q rest (a.put o.dst (.agg ds)) w) : wpList P ops Q (o :: rest) a w := by
 obtain ⟨d, hu, hd2⟩ := hr.row.row
 refine wpList_load_mid hgd T x ho g k hx ds.toList d (fun j v hv => hb.cell ?_) hu (by cases d <;> simp_all [TypeDesc.isRow]) (by simpa using hr.row.size) (by simpa using h)
 rw [← hd] at hv
 have hj : j < ds.size := by
  have := (List.getElem?_eq_some_iff.1 hv).1
  simp at this
  omega
 rw [List.getElem?_take_of_lt hj, List.getElem?_drop] at hv
 simpa using hv
end
end
section
open Go.RowKit
structure ElT (P : Program) (T E : TypeId) (sz bytes : Nat) : Prop where
 sl : P.underlying T = some (.slice E)
 info : ∃ i z, P.info? E = some i ∧ i.zero = some z ∧ i.size = sz ∧ i.bytes = bytes ∧ z.cells.size = sz
 pos : 0 < sz
theorem ElT.of {P : Program} {T E : TypeId} {sz bytes : Nat} {z : Value} (h1 : P.underlying T = some (.slice E)) (h2 : (P.info? E).map (fun i => (i.zero, i.size, i.bytes)) = some (some z, sz, bytes)) (h3 : z.cells.size = sz) (h4 : 0 < sz) : ElT P T E sz bytes := by
 refine ⟨h1, ?_, h4⟩
 cases hi : P.info? E with
 | none => rw [hi] at h2; cases h2
 | some i =>
  rw [hi] at h2
  simp at h2
  exact ⟨i, z, rfl, h2.1, h2.2.1, h2.2.2, h3⟩
section
variable {P : Program} {ops : Array Oper} {rest : List Oper} {o : Oper} {a : Act} {Q : Exit → Act → World → Prop}
theorem wpl_push {T E : TypeId} {sz bytes : Nat} (hel : ElT P T E sz bytes) (hgd : o.guard = none) (s x : Operand) (ho : o.op = .call { callee := .builtin .append, args := #[s, x], argTypes := #[T, T] })
  {W0 W : World} {v : Value} {n : Nat} {xs : List Value} (hO : OwnL W0 W E sz v n xs) (hs : a.eval s = v) (news : Array Value) (hx : a.eval x = .slice (some ⟨W.heap.size, 0, none⟩) 1 1) (hl : news.size = sz) (h1 : news.toList.all (·.oneCell') = true)
  (hn : n ≤ 100000) (hb : bytes ≤ 10000)
  (h : ∀ v' w', OwnL W0 w' E sz v' (n + 1) (xs ++ news.toList) → (W.alloc (.cells news E)).grownBy w' v.ownBlock → wpList P ops Q rest (a.put o.dst v') w') : wpList P ops Q (o :: rest) a (W.alloc (.cells news E)) := by
 obtain ⟨i, z, hi, hz, hsz, hby, hzs⟩ := hel.info
 refine wpList_append_own _ hgd s x T ho W0.heap.size E i z sz bytes hel.sl hi hz hsz hby hzs hel.pos v n xs hs (hO.own.alloc _) ⟨W.heap.size, 0, none⟩ 1 1 news.toList hx (by simp [hl]) (fun j u hj => ?_) (fun u hu => ?_) (by unfold maxLen; omega) ?_ (by have := hO.below.size; simp; omega) ?_
 ·rw [Go.WideShapes.add_plain, Nat.zero_add, World.cell?_alloc_new]
  simpa using hj
 ·exact List.all_eq_true.1 h1 u hu
 ·have : (n + 1) * bytes ≤ 100001 * 10000 := Nat.mul_le_mul (by omega) hb
  omega
 ·intro v' w' hown hg _
  exact h v' w' ((hO.next (bal0 _ _)).pushed hg hown) hg
end
theorem elInt : ElT Tryz.prog 40 3 1 8 := ElT.of (z := .int .i64 0) Tryz.underlying40 (by kernel_rfl) rfl (by decide)
end
end
section
open Go.RowKit
set_option maxHeartbeats 1000000
section
variable {P : Program} {ops : Array Oper} {rest : List Oper} {o : Oper} {a : Act} {w : World} {K : Act → Prop} {Q : Act → Prop}
theorem still_load (T : TypeId) (x : Operand) (ho : o.op = .load T x) (g : Nat) (hx : a.eval x = .pointer (some ⟨g, 0, none⟩)) {t : TypeId} {cs : Array Value} (hb : BlkAt w g cs t) (hr : RowV P T cs)
  (h : K (a.put o.dst (.agg cs))) : o.still P a w K := by
 obtain ⟨d, hu, hd⟩ := hr.row.row
 have hrun : (execOp a.eval o).run P w = .ok (.value (.agg cs)) w := by
  unfold execOp
  simp only [ho, hx, Instr.loadAt, Instr.sureAddr, Sem.run_bind, Sem.run_pure, Result.andThen_ok, run_loadVar_blk hb hr]
 unfold Oper.still
 rw [hrun]
 exact ⟨rfl, h⟩
theorem wpStill_load (hw : Region.wanted o (yielded ops a.tmps) = true) (T : TypeId) (x : Operand) (ho : o.op = .load T x) (g : Nat) (hx : a.eval x = .pointer (some ⟨g, 0, none⟩)) {t : TypeId} {cs : Array Value} (hb : BlkAt w g cs t) (hr : RowV P T cs)
  (h : wpStill P ops w Q rest (a.put o.dst (.agg cs))) : wpStill P ops w Q (o :: rest) a := by
 unfold wpStill
 rw [if_pos hw]
 exact still_load T x ho g hx hb hr h
theorem wanted_of (hgd : o.guard = none) : Region.wanted o (yielded ops a.tmps) = true := by simp [Region.wanted, hgd]
end
theorem BlkAt.rowFar {w : World} {b g : Nat} {cs ds : Array Value} {t : TypeId} (h : BlkAt w b cs t) (hne : b ≠ g) : BlkAt (w.setRow g ds) b cs t := ⟨(setRow_other w g b ds hne).trans h.blk⟩
theorem res_sc {P : Program} {w : World} {fn : Func} {p q : Tmp} {T t : TypeId} (h : fn.results = #[.tmp q, .cell p T]) {tmps : Array Value} {g : Nat} {cs : Array Value} {v : Value} (hq : tmps.getD q undef = v) (hp : tmps.getD p undef = .pointer (some ⟨g, 0, none⟩)) (hb : BlkAt w g cs t) (hr : RowV P T cs) :
  (results fn tmps).run P w = .ok (.tuple #[v, .agg cs]) w := by
 have hp' : tmps[p]?.getD undef = .pointer (some ⟨g, 0, none⟩) := by simpa using hp
 have hq' : tmps[q]?.getD undef = v := by simpa using hq
 simp [results, h, hp', hq', asAddr, run_loadVar_blk hb hr]
theorem still_build {P : Program} {o : Oper} {a : Act} {w : World} {K : Act → Prop} (t : TypeId) (parts : Array (Nat × Operand)) (ho : o.op = .build t parts) (cells : Array Value) (hf : P.built t (parts.map fun (i, x) => (i, a.eval x)).toList = some cells)
  (h : K (a.put o.dst (.agg cells))) : o.still P a w K := by
 have hrun : (execOp a.eval o).run P w = .ok (.value (.agg cells)) w := by
  unfold execOp
  simp only [ho, Sem.run_bind, run_build w t _ cells hf, Result.andThen_ok]
  rfl
 unfold Oper.still
 rw [hrun]
 exact ⟨rfl, h⟩
theorem wpStill_build {P : Program} {ops : Array Oper} {rest : List Oper} {o : Oper} {a : Act} {w : World} {Q : Act → Prop} (hgd : o.guard = none) (t : TypeId) (parts : Array (Nat × Operand)) (ho : o.op = .build t parts) (cells : Array Value) (hf : P.built t (parts.map fun (i, x) => (i, a.eval x)).toList = some cells)
  (h : wpStill P ops w Q rest (a.put o.dst (.agg cells))) : wpStill P ops w Q (o :: rest) a := by
 unfold wpStill
 rw [if_pos (wanted_of hgd)]
 exact still_build t parts ho cells hf h
def intC (neg : Bool) (m : Nat) : Array Value := #[.bool neg] ++ limA 32 m
theorem intC_size (neg : Bool) (m : Nat) : (intC neg m).size = 33 := by simp [intC, limA_size]
theorem intC_tail (neg : Bool) (m : Nat) : ((intC neg m).toList.drop 1).take (limA 32 m).size = (limA 32 m).toList := by
 simp [intC, limA]
 exact List.take_of_length_le (by simp)
theorem rowIntT : RowT Tryz.prog 29 33 := ⟨⟨_, Tryz.underlying29, rfl⟩, by kernel_rfl⟩
theorem rowInt (neg : Bool) (m : Nat) : RowV Tryz.prog 29 (intC neg m) := ⟨by rw [intC_size]; exact rowIntT, by simp [intC, limA, Value.oneCell']⟩
theorem rowArrT : RowT Tryz.prog 27 32 := ⟨⟨.array 32 26, by kernel_rfl, rfl⟩, by kernel_rfl⟩
theorem rowArr (m : Nat) : RowV Tryz.prog 27 (limA 32 m) := ⟨by rw [limA_size]; exact rowArrT, limA_one 32 m⟩
theorem intC_neg (neg : Bool) (m : Nat) : (intC neg m)[0]? = some (.bool neg) := by
 unfold intC
 rw [Array.getElem?_append_left (by simp)]
 rfl
theorem eqz (m : Nat) (hm : m < bp 32) (w : World) : (Op.equalIn 10000 155 (.agg (limA 32 m)) (.agg #[.int .u32 0, .int .u32 0, .int .u32 0, .int .u32 0, .int .u32 0, .int .u32 0, .int .u32 0, .int .u32 0, .int .u32 0, .int .u32 0, .int .u32 0, .int .u32 0, .int .u32 0, .int .u32 0, .int .u32 0, .int .u32 0, .int .u32 0, .int .u32 0, .int .u32 0, .int .u32 0, .int .u32 0, .int .u32 0, .int .u32 0, .int .u32 0, .int .u32 0, .int .u32 0, .int .u32 0, .int .u32 0, .int .u32 0, .int .u32 0, .int .u32 0, .int .u32 0])).run Tryz.prog w = .ok (decide (m = 0)) w := by
 rw [← magZ]
 exact eq_arr 9998 m 0 w hm (bp_pos 32)
set_option maxRecDepth 100000 in
theorem split_any {neg : Bool} {m : Nat} (hm : m < bp 32) {z : Bool} (hz : decide (m = 0) = z) (w : World) : Calls Tryz.prog 141 #[.agg (intC neg m)] w (RetB (.tuple #[.bool (neg && !z), .agg (limA 32 m)]) w) := by
 have he := eqz m hm
 rw [hz] at he
 have HI := Lib.hid (show BlkAt ((w.alloc (.cells (intC neg m) 29)).alloc (.cells #[.int .u32 0, .int .u32 0, .int .u32 0, .int .u32 0, .int .u32 0, .int .u32 0, .int .u32 0, .int .u32 0, .int .u32 0, .int .u32 0, .int .u32 0, .int .u32 0, .int .u32 0, .int .u32 0, .int .u32 0, .int .u32 0, .int .u32 0, .int .u32 0, .int .u32 0, .int .u32 0, .int .u32 0, .int .u32 0, .int .u32 0, .int .u32 0, .int .u32 0, .int .u32 0, .int .u32 0, .int .u32 0, .int .u32 0, .int .u32 0, .int .u32 0, .int .u32 0] 155)) w.heap.size (intC neg m) 29 from (BlkAt.new _ _ _).al _)
 have HB := Lib.hid (bal (bal (bal0 w (.cells (intC neg m) 29)) (.cells #[.int .u32 0, .int .u32 0, .int .u32 0, .int .u32 0, .int .u32 0, .int .u32 0, .int .u32 0, .int .u32 0, .int .u32 0, .int .u32 0, .int .u32 0, .int .u32 0, .int .u32 0, .int .u32 0, .int .u32 0, .int .u32 0, .int .u32 0, .int .u32 0, .int .u32 0, .int .u32 0, .int .u32 0, .int .u32 0, .int .u32 0, .int .u32 0, .int .u32 0, .int .u32 0, .int .u32 0, .int .u32 0, .int .u32 0, .int .u32 0, .int .u32 0, .int .u32 0] 155)) (.cells #[.int .u32 0, .int .u32 0, .int .u32 0, .int .u32 0, .int .u32 0, .int .u32 0, .int .u32 0, .int .u32 0, .int .u32 0, .int .u32 0, .int .u32 0, .int .u32 0, .int .u32 0, .int .u32 0, .int .u32 0, .int .u32 0, .int .u32 0, .int .u32 0, .int .u32 0, .int .u32 0, .int .u32 0, .int .u32 0, .int .u32 0, .int .u32 0, .int .u32 0, .int .u32 0, .int .u32 0, .int .u32 0, .int .u32 0, .int .u32 0, .int .u32 0, .int .u32 0] 155))
 have HZ := Lib.hid (show MagAt (((w.alloc (.cells (intC neg m) 29)).alloc (.cells #[.int .u32 0, .int .u32 0, .int .u32 0, .int .u32 0, .int .u32 0, .int .u32 0, .int .u32 0, .int .u32 0, .int .u32 0, .int .u32 0, .int .u32 0, .int .u32 0, .int .u32 0, .int .u32 0, .int .u32 0, .int .u32 0, .int .u32 0, .int .u32 0, .int .u32 0, .int .u32 0, .int .u32 0, .int .u32 0, .int .u32 0, .int .u32 0, .int .u32 0, .int .u32 0, .int .u32 0, .int .u32 0, .int .u32 0, .int .u32 0, .int .u32 0, .int .u32 0] 155)).alloc (.cells #[.int .u32 0, .int .u32 0, .int .u32 0, .int .u32 0, .int .u32 0, .int .u32 0, .int .u32 0, .int .u32 0, .int .u32 0, .int .u32 0, .int .u32 0, .int .u32 0, .int .u32 0, .int .u32 0, .int .u32 0, .int .u32 0, .int .u32 0, .int .u32 0, .int .u32 0, .int .u32 0, .int .u32 0, .int .u32 0, .int .u32 0, .int .u32 0, .int .u32 0, .int .u32 0, .int .u32 0, .int .u32 0, .int .u32 0, .int .u32 0, .int .u32 0, .int .u32 0] 155)) (w.heap.size + 1) 0 from MagAt.zero ((BlkAt.newAt _ _ _ (by simp)).al _))
 have HM := Lib.hid (show MagAt (((w.alloc (.cells (intC neg m) 29)).alloc (.cells #[.int .u32 0, .int .u32 0, .int .u32 0, .int .u32 0, .int .u32 0, .int .u32 0, .int .u32 0, .int .u32 0, .int .u32 0, .int .u32 0, .int .u32 0, .int .u32 0, .int .u32 0, .int .u32 0, .int .u32 0, .int .u32 0, .int .u32 0, .int .u32 0, .int .u32 0, .int .u32 0, .int .u32 0, .int .u32 0, .int .u32 0, .int .u32 0, .int .u32 0, .int .u32 0, .int .u32 0, .int .u32 0, .int .u32 0, .int .u32 0, .int .u32 0, .int .u32 0] 155)).alloc (.cells #[.int .u32 0, .int .u32 0, .int .u32 0, .int .u32 0, .int .u32 0, .int .u32 0, .int .u32 0, .int .u32 0, .int .u32 0, .int .u32 0, .int .u32 0, .int .u32 0, .int .u32 0, .int .u32 0, .int .u32 0, .int .u32 0, .int .u32 0, .int .u32 0, .int .u32 0, .int .u32 0, .int .u32 0, .int .u32 0, .int .u32 0, .int .u32 0, .int .u32 0, .int .u32 0, .int .u32 0, .int .u32 0, .int .u32 0, .int .u32 0, .int .u32 0, .int .u32 0] 155)) (w.heap.size + 1 + 1) 0 from MagAt.zero (BlkAt.newAt _ _ _ (by simp)))
 have HI2 := Lib.hid (HI.out.al (.cells #[.int .u32 0, .int .u32 0, .int .u32 0, .int .u32 0, .int .u32 0, .int .u32 0, .int .u32 0, .int .u32 0, .int .u32 0, .int .u32 0, .int .u32 0, .int .u32 0, .int .u32 0, .int .u32 0, .int .u32 0, .int .u32 0, .int .u32 0, .int .u32 0, .int .u32 0, .int .u32 0, .int .u32 0, .int .u32 0, .int .u32 0, .int .u32 0, .int .u32 0, .int .u32 0, .int .u32 0, .int .u32 0, .int .u32 0, .int .u32 0, .int .u32 0, .int .u32 0] 155))
 clear hz
 go_enter Tryz.func141, Tryz.ntmps141
 go_upto_region 2 with (first | ((with_reducible refine wpl_load_mid rfl 27 _ rfl _ 1 ?_ HI2.out (intC_tail _ _) (rowArr _) ?_); exact rfl) | ((with_reducible refine wpl_load_mid rfl 27 _ rfl _ 1 ?_ HI.out (intC_tail _ _) (rowArr _) ?_); exact rfl) | ((with_reducible refine wpl_store rfl 155 _ _ rfl _ (limA 32 m) ?_ ?_ HM.out.blk (rowMag _) ?_ ?_); exact rfl; exact rfl; exact (by rw [limA_size, limA_size])))
 have HI3 := Lib.hid (HI2.out.rowFar (show w.heap.size ≠ w.heap.size + 1 + 1 by omega) (ds := limA 32 m))
 have HZ3 := Lib.hid (BlkAt.rowFar HZ.out (show w.heap.size + 1 ≠ w.heap.size + 1 + 1 by omega) (ds := limA 32 m))
 have HM3 := Lib.hid (HM.out.blk.set (limA 32 m))
 have HB3 := Lib.hid (Below.setRow HB.out (show w.heap.size ≤ w.heap.size + 1 + 1 by omega) (limA 32 m))
 clear HI HI2 HZ HM HB
 generalize World.setRow _ _ _ = w2 at *
 have c0 : w2.drew.cell? ⟨w.heap.size, 0, none⟩ = some (.bool neg) := (HI3.out.next (Below.refl _ _).drew).cell (intC_neg _ _)
 have HMD := HM3.out.next (Below.refl _ _).drew
 have HZD := HZ3.out.next (Below.refl _ _).drew
 have HBS := Lib.hid (Below.setRow (bnext HB3.out (Below.refl _ _).drew) (show w.heap.size ≤ w.heap.size + 1 by omega) (limA 32 m))
 have HRS := Lib.hid (HZD.set (limA 32 m))
 cases neg
 all_goals
  refine wp_region_still_tail 9 (by kernel_rfl) (by kernel_rfl) ?_
  simp only [List.take_succ_cons, List.take_zero, List.drop_succ_cons, List.drop_zero]
  iterate 9 (first
   | (refine wpStill_load (wanted_of rfl) 155 _ rfl (w.heap.size + 1 + 1) rfl HMD (rowMag _) ?_)
   | ((refine wpStill_load ?hw 155 _ rfl (w.heap.size + 1 + 1) rfl HMD (rowMag _) ?_); (case hw => (go_simp; done)))
   | still_step)
  refine wpStill_nil ?_
  change wpList _ _ _ _ _ w2.drew
  go_wp2_with ((with_reducible refine wpl_store rfl 155 _ _ rfl _ (limA 32 m) ?_ ?_ HZD (rowMag _) ?_ ?_); exact rfl; exact rfl; exact (by rw [limA_size, limA_size]))
  exact bodyPost_ret (res_sc rfl rfl rfl HRS.out (rowMag _)) rfl ⟨rfl, HBS.out⟩
theorem built_int (b : Bool) (m : Nat) : Tryz.prog.built 29 [(0, .bool b), (1, .agg (limA 32 m))] = some (intC b m) := by kernel_rfl
theorem intZ : intC false 0 = #[.bool false, .int .u32 0, .int .u32 0, .int .u32 0, .int .u32 0, .int .u32 0, .int .u32 0, .int .u32 0, .int .u32 0, .int .u32 0, .int .u32 0, .int .u32 0, .int .u32 0, .int .u32 0, .int .u32 0, .int .u32 0, .int .u32 0, .int .u32 0, .int .u32 0, .int .u32 0, .int .u32 0, .int .u32 0, .int .u32 0, .int .u32 0, .int .u32 0, .int .u32 0, .int .u32 0, .int .u32 0, .int .u32 0, .int .u32 0, .int .u32 0, .int .u32 0, .int .u32 0] := by unfold intC; rw [magZ]; rfl
set_option maxRecDepth 100000 in
theorem made_any {neg : Bool} {m : Nat} (hm : m < bp 32) {z : Bool} (hz : decide (m = 0) = z) (w : World) : Calls Tryz.prog 185 #[.bool neg, .agg (limA 32 m)] w (RetB (.agg (intC (neg && !z) m)) w) := by
 have he := eqz m hm
 rw [hz] at he
 have HB := Lib.hid (bal (bal0 w (.cells (limA 32 m) 155)) (.cells #[.bool false, .int .u32 0, .int .u32 0, .int .u32 0, .int .u32 0, .int .u32 0, .int .u32 0, .int .u32 0, .int .u32 0, .int .u32 0, .int .u32 0, .int .u32 0, .int .u32 0, .int .u32 0, .int .u32 0, .int .u32 0, .int .u32 0, .int .u32 0, .int .u32 0, .int .u32 0, .int .u32 0, .int .u32 0, .int .u32 0, .int .u32 0, .int .u32 0, .int .u32 0, .int .u32 0, .int .u32 0, .int .u32 0, .int .u32 0, .int .u32 0, .int .u32 0, .int .u32 0] 29))
 have HM := Lib.hid (show BlkAt ((w.alloc (.cells (limA 32 m) 155)).alloc (.cells #[.bool false, .int .u32 0, .int .u32 0, .int .u32 0, .int .u32 0, .int .u32 0, .int .u32 0, .int .u32 0, .int .u32 0, .int .u32 0, .int .u32 0, .int .u32 0, .int .u32 0, .int .u32 0, .int .u32 0, .int .u32 0, .int .u32 0, .int .u32 0, .int .u32 0, .int .u32 0, .int .u32 0, .int .u32 0, .int .u32 0, .int .u32 0, .int .u32 0, .int .u32 0, .int .u32 0, .int .u32 0, .int .u32 0, .int .u32 0, .int .u32 0, .int .u32 0, .int .u32 0] 29)) w.heap.size (limA 32 m) 155 from (BlkAt.new _ _ _).al _)
 have HZ := Lib.hid (show BlkAt ((w.alloc (.cells (limA 32 m) 155)).alloc (.cells #[.bool false, .int .u32 0, .int .u32 0, .int .u32 0, .int .u32 0, .int .u32 0, .int .u32 0, .int .u32 0, .int .u32 0, .int .u32 0, .int .u32 0, .int .u32 0, .int .u32 0, .int .u32 0, .int .u32 0, .int .u32 0, .int .u32 0, .int .u32 0, .int .u32 0, .int .u32 0, .int .u32 0, .int .u32 0, .int .u32 0, .int .u32 0, .int .u32 0, .int .u32 0, .int .u32 0, .int .u32 0, .int .u32 0, .int .u32 0, .int .u32 0, .int .u32 0, .int .u32 0] 29)) (w.heap.size + 1) #[.bool false, .int .u32 0, .int .u32 0, .int .u32 0, .int .u32 0, .int .u32 0, .int .u32 0, .int .u32 0, .int .u32 0, .int .u32 0, .int .u32 0, .int .u32 0, .int .u32 0, .int .u32 0, .int .u32 0, .int .u32 0, .int .u32 0, .int .u32 0, .int .u32 0, .int .u32 0, .int .u32 0, .int .u32 0, .int .u32 0, .int .u32 0, .int .u32 0, .int .u32 0, .int .u32 0, .int .u32 0, .int .u32 0, .int .u32 0, .int .u32 0, .int .u32 0, .int .u32 0] 29 from BlkAt.newAt _ _ _ (by simp))
 clear hz
 go_enter Tryz.func185, Tryz.ntmps185
 go_upto_region 1 with (fail)
 generalize (w.alloc _).alloc _ = w2 at *
 have HMD := HM.out.next (Below.refl _ _).drew
 have HZD := HZ.out.next (Below.refl _ _).drew
 have HBS := Lib.hid (fun c => Below.setRow (bnext HB.out (Below.refl _ _).drew) (show w.heap.size ≤ w.heap.size + 1 by omega) c)
 have HRS := Lib.hid (fun c => HZD.set c)
 cases neg
 case false =>
  refine wp_region_still_tail 8 (by kernel_rfl) (by kernel_rfl) ?_
  simp only [List.take_succ_cons, List.take_zero, List.drop_succ_cons, List.drop_zero]
  iterate 8 (first
   | (refine wpStill_load (wanted_of rfl) 155 _ rfl w.heap.size rfl HMD (rowMag _) ?_)
   | ((refine wpStill_load ?hw 155 _ rfl w.heap.size rfl HMD (rowMag _) ?_); (case hw => (go_simp; done)))
   | ((refine wpStill_build rfl 29 _ rfl (intC false m) ?hf ?_); (case hf => (simp only [List.map_toArray, List.map_cons, List.map_nil]; exact built_int false m)))
   | still_step)
  refine wpStill_nil ?_
  change wpList _ _ _ _ _ w2.drew
  go_wp2_with (((with_reducible refine wpl_store rfl 29 _ _ rfl _ (intC false m) ?_ ?_ HZD (rowInt _ _) ?_ ?_); exact rfl; exact rfl; exact (by rw [intC_size]; rfl)))
  exact bodyPost_ret (res_c rfl rfl (HRS.out _) (rowInt _ _)) rfl ⟨rfl, HBS.out _⟩
 case true =>
  refine wp_region_still_tail 8 (by kernel_rfl) (by kernel_rfl) ?_
  simp only [List.take_succ_cons, List.take_zero, List.drop_succ_cons, List.drop_zero]
  iterate 8 (first
   | (refine wpStill_load (wanted_of rfl) 155 _ rfl w.heap.size rfl HMD (rowMag _) ?_)
   | ((refine wpStill_load ?hw 155 _ rfl w.heap.size rfl HMD (rowMag _) ?_); (case hw => (go_simp; done)))
   | ((refine wpStill_build rfl 29 _ rfl (intC (!z) m) ?hf ?_); (case hf => (simp only [List.map_toArray, List.map_cons, List.map_nil]; exact built_int (!z) m)))
   | still_step)
  refine wpStill_nil ?_
  change wpList _ _ _ _ _ w2.drew
  go_wp2_with (((with_reducible refine wpl_store rfl 29 _ _ rfl _ (intC (!z) m) ?_ ?_ HZD (rowInt _ _) ?_ ?_); exact rfl; exact rfl; exact (by rw [intC_size]; rfl)))
  exact bodyPost_ret (res_c rfl rfl (HRS.out _) (rowInt _ _)) rfl ⟨rfl, HBS.out _⟩
end
section
open Go.RowKit
set_option maxHeartbeats 4000000
theorem borrow_le {a b s i k : Nat} (hs : s < bp i) (h : s + b % bp i = a % bp i + k * bp i) : k ≤ 1 := by
 have h2 := Nat.mod_lt b (bp_pos i)
 rcases Nat.lt_or_ge 1 k with h3 | h3
 ·have := Nat.mul_le_mul_right (bp i) (show 2 ≤ k from h3)
  omega
 ·exact h3
set_option maxRecDepth 100000 in
theorem minus_any {a b g k : Nat} {w : World} (ha : MagAt w g a) (hb : MagAt w k b) (la : a < bp 32) (lb : b < bp 32) (hle : b ≤ a) : Calls Tryz.prog 198 #[.pointer (some ⟨g, 0, none⟩), .pointer (some ⟨k, 0, none⟩)] w (RetB (.agg (limA 32 (a - b))) w) := by
 have hgl := BlkAt.lt ha
 have hkl := BlkAt.lt hb
 have hbl := bal (bal0 w (.cells #[.int .u32 0, .int .u32 0, .int .u32 0, .int .u32 0, .int .u32 0, .int .u32 0, .int .u32 0, .int .u32 0, .int .u32 0, .int .u32 0, .int .u32 0, .int .u32 0, .int .u32 0, .int .u32 0, .int .u32 0, .int .u32 0, .int .u32 0, .int .u32 0, .int .u32 0, .int .u32 0, .int .u32 0, .int .u32 0, .int .u32 0, .int .u32 0, .int .u32 0, .int .u32 0, .int .u32 0, .int .u32 0, .int .u32 0, .int .u32 0, .int .u32 0, .int .u32 0] 155)) (.cells #[.int .u32 0, .int .u32 0, .int .u32 0, .int .u32 0, .int .u32 0, .int .u32 0, .int .u32 0, .int .u32 0, .int .u32 0, .int .u32 0, .int .u32 0, .int .u32 0, .int .u32 0, .int .u32 0, .int .u32 0, .int .u32 0, .int .u32 0, .int .u32 0, .int .u32 0, .int .u32 0, .int .u32 0, .int .u32 0, .int .u32 0, .int .u32 0, .int .u32 0, .int .u32 0, .int .u32 0, .int .u32 0, .int .u32 0, .int .u32 0, .int .u32 0, .int .u32 0] 155)
 have HA := Lib.hid (ha.next hbl)
 have HB := Lib.hid (hb.next hbl)
 have HR := Lib.hid (show MagAt ((w.alloc (.cells #[.int .u32 0, .int .u32 0, .int .u32 0, .int .u32 0, .int .u32 0, .int .u32 0, .int .u32 0, .int .u32 0, .int .u32 0, .int .u32 0, .int .u32 0, .int .u32 0, .int .u32 0, .int .u32 0, .int .u32 0, .int .u32 0, .int .u32 0, .int .u32 0, .int .u32 0, .int .u32 0, .int .u32 0, .int .u32 0, .int .u32 0, .int .u32 0, .int .u32 0, .int .u32 0, .int .u32 0, .int .u32 0, .int .u32 0, .int .u32 0, .int .u32 0, .int .u32 0] 155)).alloc (.cells #[.int .u32 0, .int .u32 0, .int .u32 0, .int .u32 0, .int .u32 0, .int .u32 0, .int .u32 0, .int .u32 0, .int .u32 0, .int .u32 0, .int .u32 0, .int .u32 0, .int .u32 0, .int .u32 0, .int .u32 0, .int .u32 0, .int .u32 0, .int .u32 0, .int .u32 0, .int .u32 0, .int .u32 0, .int .u32 0, .int .u32 0, .int .u32 0, .int .u32 0, .int .u32 0, .int .u32 0, .int .u32 0, .int .u32 0, .int .u32 0, .int .u32 0, .int .u32 0] 155)) w.heap.size 0 from MagAt.zero ((BlkAt.new _ _ _).al _))
 have HZ := Lib.hid (show MagAt ((w.alloc (.cells #[.int .u32 0, .int .u32 0, .int .u32 0, .int .u32 0, .int .u32 0, .int .u32 0, .int .u32 0, .int .u32 0, .int .u32 0, .int .u32 0, .int .u32 0, .int .u32 0, .int .u32 0, .int .u32 0, .int .u32 0, .int .u32 0, .int .u32 0, .int .u32 0, .int .u32 0, .int .u32 0, .int .u32 0, .int .u32 0, .int .u32 0, .int .u32 0, .int .u32 0, .int .u32 0, .int .u32 0, .int .u32 0, .int .u32 0, .int .u32 0, .int .u32 0, .int .u32 0] 155)).alloc (.cells #[.int .u32 0, .int .u32 0, .int .u32 0, .int .u32 0, .int .u32 0, .int .u32 0, .int .u32 0, .int .u32 0, .int .u32 0, .int .u32 0, .int .u32 0, .int .u32 0, .int .u32 0, .int .u32 0, .int .u32 0, .int .u32 0, .int .u32 0, .int .u32 0, .int .u32 0, .int .u32 0, .int .u32 0, .int .u32 0, .int .u32 0, .int .u32 0, .int .u32 0, .int .u32 0, .int .u32 0, .int .u32 0, .int .u32 0, .int .u32 0, .int .u32 0, .int .u32 0] 155)) (w.heap.size + 1) 0 from MagAt.zero (BlkAt.newAt _ _ _ (by simp)))
 have HBL := Lib.hid hbl
 have HC := Lib.hid hle
 have HL := Lib.hid (And.intro la lb)
 clear ha hb la lb hle hbl
 go_enter Tryz.func198, Tryz.ntmps198
 go_wp2_with fail
 generalize (w.alloc _).alloc _ = w0 at *
 have hne1 : g ≠ w.heap.size + 1 := by omega
 have hne2 : k ≠ w.heap.size + 1 := by omega
 have hne3 : w.heap.size ≠ w.heap.size + 1 := by omega
 have hge : w.heap.size ≤ w.heap.size + 1 := by omega
 have HNE := Lib.hid (And.intro hne1 (And.intro hne2 (And.intro hne3 hge)))
 clear hne1 hne2 hne3 hge hgl hkl
 go_loopw [6, 8] (fun cv iv wr => ∃ i q s : Nat, i ≤ 32 ∧ cv = .int .u32 q ∧ iv = .int .i64 i ∧ s < bp i ∧ s + b % bp i = a % bp i + q * bp i ∧ MagAt wr (w.heap.size + 1) s ∧ MagAt wr w.heap.size 0 ∧ MagAt wr g a ∧ MagAt wr k b ∧ Below w.heap.size w wr) (fun _ iv _ => 32 - (intOf iv).toNat)
 case atStart => exact ⟨0, 0, 0, by omega, rfl, rfl, bp_pos 0, by rw [bp_zero]; omega, HZ.out, HR.out, HA.out, HB.out, HBL.out⟩
 case round =>
  obtain ⟨i, q, s, hi, rfl, rfl, hs, hq, hZ, hR, hA, hB, hbl⟩ := hrel
  have HS := Lib.hid (And.intro hs hq)
  have HM := Lib.hid (And.intro hZ (And.intro hR (And.intro hA (And.intro hB hbl))))
  have hq1 := borrow_le hs hq
  clear hs hq hZ hR hA hB hbl HZ HR HA HB HBL
  by_cases hlt : i < 32
  ·obtain ⟨x, hx⟩ : ∃ x, lim a i = x := ⟨_, rfl⟩
   obtain ⟨y, hy⟩ : ∃ y, lim b i = y := ⟨_, rfl⟩
   have hx1 := lim_lt a i
   have hy1 := lim_lt b i
   obtain ⟨d, q', hd, hq', hdd⟩ := sub_ex (lim a i) (lim b i) q hx1 hy1 hq1
   obtain ⟨p1, p2⟩ := minus_step HS.out.1 HS.out.2 hd hdd
   rw [hx, hy] at hdd
   have HDQ := Lib.hid (And.intro hq' hdd)
   rw [hx] at hx1
   rw [hy] at hy1
   have HD := Lib.hid (HM.out.2.2.1.next (Below.refl _ _).drew)
   have HE := Lib.hid (HM.out.2.2.2.1.next (Below.refl _ _).drew)
   have HZD := Lib.hid (HM.out.1.next (Below.refl _ _).drew)
   have HRD := Lib.hid (HM.out.2.1.next (Below.refl _ _).drew)
   have HBD := Lib.hid (bnext HM.out.2.2.2.2 (Below.refl _ _).drew)
   have c1 : Hid (∀ W : World, MagAt W g a → W.cell? ⟨g, i, none⟩ = some (.int .u32 x)) := Lib.hid (fun W h => by rw [← hx]; exact h.cell hlt)
   have c2 : Hid (∀ W : World, MagAt W k b → W.cell? ⟨k, i, none⟩ = some (.int .u32 y)) := Lib.hid (fun W h => by rw [← hy]; exact h.cell hlt)
   have cst := HM.out.1.cell hlt
   have fst := BlkAt.fz HM.out.1 i
   have i0 : (0 : Int) ≤ (i : Int) := by omega
   have i1 : (i : Int) < 32 := by omega
   have HP := Lib.hid (And.intro p1 (And.intro p2 hd))
   clear p1 p2 hx hy hdd hq'
   go_wp2_with fail
   go_region_held3 (fun W => W.cell? ⟨g, i, none⟩ = some (.int .u32 x) ∧ W.cell? ⟨k, i, none⟩ = some (.int .u32 y))
    ((first
     | (with_reducible exact ⟨c1.out _ HD.out, c2.out _ HE.out⟩)
     | (with_reducible exact ⟨c1.out _ ((HM.out.2.2.1.far HNE.out.1).next (Below.refl _ _).drew), c2.out _ ((HM.out.2.2.2.1.far HNE.out.2.1).next (Below.refl _ _).drew)⟩)))
    ((go_at_call 227; refine (sub32_any x y q hx1 hy1 hq1 HP.out.2.2 HDQ.out.1 HDQ.out.2 _).mono ?_; rintro e w3 ⟨rfl, rfl⟩))
   have HN := Lib.hid (show MagAt ((wr.setCell ⟨w.heap.size + 1, i, none⟩ (.int .u32 d)).drew) (w.heap.size + 1) (setM s i d) ∧ MagAt ((wr.setCell ⟨w.heap.size + 1, i, none⟩ (.int .u32 d)).drew) w.heap.size 0 ∧ MagAt ((wr.setCell ⟨w.heap.size + 1, i, none⟩ (.int .u32 d)).drew) g a ∧ MagAt ((wr.setCell ⟨w.heap.size + 1, i, none⟩ (.int .u32 d)).drew) k b ∧ Below w.heap.size w ((wr.setCell ⟨w.heap.size + 1, i, none⟩ (.int .u32 d)).drew) from
    ⟨(HM.out.1.set HP.out.2.2).next (Below.refl _ _).drew, (HM.out.2.1.far HNE.out.2.2.1).next (Below.refl _ _).drew, (HM.out.2.2.1.far HNE.out.1).next (Below.refl _ _).drew, (HM.out.2.2.2.1.far HNE.out.2.1).next (Below.refl _ _).drew, bnext (HM.out.2.2.2.2.setCell HNE.out.2.2.2 _) (Below.refl _ _).drew⟩)
   clear HD HE HZD HRD HBD c1 c2 cst fst HM
   go_wp2_with fail
   go_roundw
   case rel => exact ⟨i + 1, q', setM s i d, by omega, rfl, by go_num, HP.out.1, HP.out.2.1, HN.out⟩
   case measure => simp [intOf]; omega
  ·obtain rfl : i = 32 := by omega
   rw [Nat.mod_eq_of_lt HL.out.1, Nat.mod_eq_of_lt HL.out.2] at HS
   have hsv : s = a - b := by
    have h1 := HS.out.1
    have h2 := HS.out.2
    have h3 := HC.out
    rcases Nat.lt_or_ge 0 q with h4 | h4
    ·have := Nat.mul_le_mul_right (bp 32) h4
     omega
    ·have : q = 0 := by omega
     subst this
     omega
   subst hsv
   clear HS HC
   have HRW := Lib.hid (BlkAt.lt HM.out.2.1)
   have HBB := Lib.hid (Below.setRow HM.out.2.2.2.2 (Nat.le_refl _) (limA 32 (a - b)))
   have HRR := Lib.hid (show BlkAt (wr.setRow w.heap.size (limA 32 (a - b))) w.heap.size (limA 32 (a - b)) 155 from HM.out.2.1.blk.set _)
   go_wp2_with (first | ((with_reducible refine wpl_load rfl 155 _ rfl _ ?_ HM.out.1.blk (rowMag _) ?_); exact rfl) | ((with_reducible refine wpl_store rfl 155 _ _ rfl _ (limA 32 (a - b)) ?_ ?_ HM.out.2.1.blk (rowMag _) ?_ ?_); exact rfl; exact rfl; exact (by rw [limA_size, limA_size])))
   exact bodyPost_ret (res_c rfl rfl HRR.out (rowMag _)) rfl ⟨rfl, HBB.out⟩
def sgN (neg : Bool) (m : Nat) : Int := if m = 0 then 0 else if neg = true then -1 else 1
set_option maxRecDepth 100000 in
theorem sign_any {neg : Bool} {m : Nat} (hm : m < bp 32) {v : Int} (hv : sgN neg m = v) (w : World) : Calls Tryz.prog 93 #[.agg (intC neg m)] w (RetB (.int .i64 v) w) := by
 obtain ⟨z, hz⟩ : ∃ z, decide (m = 0) = z := ⟨_, rfl⟩
 have he := eqz m hm
 rw [hz] at he
 have hsp := fun w => split_any (neg := neg) hm hz w
 have HI := Lib.hid (BlkAt.new w (intC neg m) 29)
 have HB := Lib.hid (bal0 w (.cells (intC neg m) 29))
 have HV : Hid (v = if z = true then 0 else if neg = true then -1 else 1) := Lib.hid (by
  rw [← hv, ← hz]
  simp [sgN])
 clear hv hz hm
 go_enter Tryz.func93, Tryz.ntmps93
 go_wp2_with (((with_reducible refine wpl_load rfl 29 _ rfl _ ?_ HI.out (rowInt _ _) ?_); exact rfl))
 refine (hsp _).mono ?_
 rintro e w1 ⟨rfl, hb⟩
 have HB1 := Lib.hid (bal (bnext HB.out hb) (.cells (limA 32 m) 155))
 clear hb hsp HI HB
 cases neg
 all_goals
  cases z
  all_goals
   go_wp2_with (first | ((with_reducible refine wpl_store_new rfl 155 _ _ rfl (limA 32 m) ?_ ?_ (rowMag _) ?_ ?_); exact rfl; exact rfl; exact rfl) | ((with_reducible refine wpl_load rfl 155 _ rfl _ ?_ (BlkAt.new w1 _ _) (rowMag _) ?_); exact rfl))
   go_ret
   exact ⟨ret_int (by rw [HV.out]; rfl), HB1.out⟩
end
section
open Go.RowKit
set_option maxHeartbeats 400000
set_option maxRecDepth 100000 in
theorem neg_any {neg : Bool} {m : Nat} (hm : m < bp 32) {b : Bool} (hb : (!neg && !decide (m = 0)) = b) (w : World) : Calls Tryz.prog 130 #[.agg (intC neg m)] w (RetB (.agg (intC b m)) w) := by
 obtain ⟨z, hz⟩ : ∃ z, decide (m = 0) = z := ⟨_, rfl⟩
 have hsp := fun w => split_any (neg := neg) hm hz w
 obtain ⟨q, hq⟩ : ∃ q, (neg && !z) = q := ⟨_, rfl⟩
 rw [hq] at hsp
 have hmk := fun w => made_any (neg := !q) hm hz w
 have hbv : (!q && !z) = b := by rw [← hb, hz, ← hq]; cases neg <;> cases z <;> rfl
 rw [hbv] at hmk
 have HI := Lib.hid (show BlkAt ((w.alloc (.cells (intC neg m) 29)).alloc (.cells #[.bool false, .int .u32 0, .int .u32 0, .int .u32 0, .int .u32 0, .int .u32 0, .int .u32 0, .int .u32 0, .int .u32 0, .int .u32 0, .int .u32 0, .int .u32 0, .int .u32 0, .int .u32 0, .int .u32 0, .int .u32 0, .int .u32 0, .int .u32 0, .int .u32 0, .int .u32 0, .int .u32 0, .int .u32 0, .int .u32 0, .int .u32 0, .int .u32 0, .int .u32 0, .int .u32 0, .int .u32 0, .int .u32 0, .int .u32 0, .int .u32 0, .int .u32 0, .int .u32 0] 29)) w.heap.size (intC neg m) 29 from (BlkAt.new _ _ _).al _)
 have HZ := Lib.hid (show BlkAt ((w.alloc (.cells (intC neg m) 29)).alloc (.cells #[.bool false, .int .u32 0, .int .u32 0, .int .u32 0, .int .u32 0, .int .u32 0, .int .u32 0, .int .u32 0, .int .u32 0, .int .u32 0, .int .u32 0, .int .u32 0, .int .u32 0, .int .u32 0, .int .u32 0, .int .u32 0, .int .u32 0, .int .u32 0, .int .u32 0, .int .u32 0, .int .u32 0, .int .u32 0, .int .u32 0, .int .u32 0, .int .u32 0, .int .u32 0, .int .u32 0, .int .u32 0, .int .u32 0, .int .u32 0, .int .u32 0, .int .u32 0, .int .u32 0] 29)) (w.heap.size + 1) #[.bool false, .int .u32 0, .int .u32 0, .int .u32 0, .int .u32 0, .int .u32 0, .int .u32 0, .int .u32 0, .int .u32 0, .int .u32 0, .int .u32 0, .int .u32 0, .int .u32 0, .int .u32 0, .int .u32 0, .int .u32 0, .int .u32 0, .int .u32 0, .int .u32 0, .int .u32 0, .int .u32 0, .int .u32 0, .int .u32 0, .int .u32 0, .int .u32 0, .int .u32 0, .int .u32 0, .int .u32 0, .int .u32 0, .int .u32 0, .int .u32 0, .int .u32 0, .int .u32 0] 29 from BlkAt.newAt _ _ _ (by simp))
 have HB := Lib.hid (bal (bal0 w (.cells (intC neg m) 29)) (.cells #[.bool false, .int .u32 0, .int .u32 0, .int .u32 0, .int .u32 0, .int .u32 0, .int .u32 0, .int .u32 0, .int .u32 0, .int .u32 0, .int .u32 0, .int .u32 0, .int .u32 0, .int .u32 0, .int .u32 0, .int .u32 0, .int .u32 0, .int .u32 0, .int .u32 0, .int .u32 0, .int .u32 0, .int .u32 0, .int .u32 0, .int .u32 0, .int .u32 0, .int .u32 0, .int .u32 0, .int .u32 0, .int .u32 0, .int .u32 0, .int .u32 0, .int .u32 0, .int .u32 0] 29))
 clear hz hm hb hbv hq
 go_enter Tryz.func130, Tryz.ntmps130
 go_wp2_with (((with_reducible refine wpl_load rfl 29 _ rfl _ ?_ HI.out (rowInt _ _) ?_); exact rfl))
 refine (hsp _).mono ?_
 rintro e w1 ⟨rfl, hb⟩
 have HB1 := Lib.hid (bal (bnext HB.out hb) (.cells (limA 32 m) 155))
 have HZ1 := Lib.hid ((HZ.out.next hb).al (.cells (limA 32 m) 155))
 have HM1 := Lib.hid (BlkAt.new w1 (limA 32 m) 155)
 clear hb hsp HI HB HZ
 go_wp2_with (first | ((with_reducible refine wpl_store_new rfl 155 _ _ rfl (limA 32 m) ?_ ?_ (rowMag _) ?_ ?_); exact rfl; exact rfl; exact rfl) | ((with_reducible refine wpl_load rfl 155 _ rfl _ ?_ HM1.out (rowMag _) ?_); exact rfl))
 refine (hmk _).mono ?_
 rintro e w2 ⟨rfl, hb⟩
 have HB2 := Lib.hid (fun c => Below.setRow (bnext HB1.out hb) (show w.heap.size ≤ w.heap.size + 1 by omega) c)
 have HZ2 := Lib.hid (HZ1.out.next hb)
 have HR2 := Lib.hid (HZ2.out.set (intC b m))
 clear hb hmk HB1 HZ1 HM1
 go_wp2_with ((with_reducible refine wpl_store rfl 29 _ _ rfl _ (intC b m) ?_ ?_ HZ2.out (rowInt _ _) ?_ ?_); exact rfl; exact rfl; exact (by rw [intC_size]; rfl))
 exact bodyPost_ret (res_c rfl rfl HR2.out (rowInt _ _)) rfl ⟨rfl, HB2.out _⟩
end
section
section
open Go.RowKit
section
variable {P : Program} {md : Region.Mode} {ops : Array Oper} {Q : Exit → Act → World → Prop}
def waitsB (md : Region.Mode) (ops : Array Oper) (i j : Nat) : Bool :=
 match ops[i]? with
 | none => false
 | some o => o.after.any fun e => Region.binds md e && e.on == j
def earlierB (md : Region.Mode) (ops : Array Oper) : Bool :=
 (List.range ops.size).all fun i => match ops[i]? with
 | none => true
 | some o => o.after.all fun e => !Region.binds md e || decide (e.on < i)
theorem ready_nil (hE : earlierB md ops = true) {listed : Array Bool} (hs : listed.size = ops.size) (h : Region.ready md ops listed = []) : ∀ n i, i ≤ n → i < ops.size → listed.getD i false = true
 | n, i, hn, hi => by
  cases hc : listed.getD i true
  ·exfalso
   have hm : i ∈ Region.ready md ops listed := by
    refine mem_ready.2 ⟨hc, ops[i], Array.getElem?_eq_getElem hi, fun e he hb => ?_⟩
    have h1 := List.all_eq_true.1 hE i (List.mem_range.2 hi)
    rw [Array.getElem?_eq_getElem hi] at h1
    have h2 := (Array.all_eq_true_iff_forall_mem.1 h1) e he
    rw [hb] at h2
    have h3 : e.on < i := by simpa using h2
    have : n ≠ 0 := by omega
    exact ready_nil hE hs h (n - 1) e.on (by omega) (by omega)
   rw [h] at hm
   cases hm
  ·have : i < listed.size := by omega
   simpa [Array.getD, this] using hc
termination_by n => n
def openN (listed : Array Bool) : Nat := (listed.toList.filter fun b => !b).length
theorem openN_set {listed : Array Bool} {i : Nat} (hi : i < listed.size) (h : listed.getD i true = false) : openN (listed.setIfInBounds i true) + 1 = openN listed := by
 have h0 : listed.toList[i]? = some false := by
  have : listed[i]? = some false := by
   rw [Array.getElem?_eq_getElem hi]
   have h2 : listed[i] = false := by simpa [Array.getD, hi] using h
   rw [h2]
  simpa using this
 unfold openN
 rw [Array.toList_setIfInBounds]
 generalize listed.toList = l at h0
 clear h hi
 induction l generalizing i with
 | nil => simp at h0
 | cons x r ih =>
  cases i with
  | zero =>
   simp at h0
   subst h0
   simp
  | succ i =>
   have := ih (i := i) (by simpa using h0)
   simp only [z2, List.filter_cons]
   cases x
   ·simp; omega
   ·simpa using this
theorem wpAny_inv (I : Array Bool → Act → World → Prop) (hE : earlierB md ops = true)
  (hstep : ∀ listed a w i, i < ops.size → I listed a w → (∀ j, waitsB md ops i j = true → listed.getD j false = true) → listed.getD i true = false → wpOp P ops Q i (I (listed.setIfInBounds i true)) a w)
  (hdone : ∀ listed a w, I listed a w → (∀ i, i < ops.size → listed.getD i false = true) → Q .normal a w) :
  ∀ (fuel : Nat) (listed : Array Bool) (a : Act) (w : World), listed.size = ops.size → openN listed ≤ fuel → I listed a w → wpAny P md ops Q fuel listed a w
 | 0, listed, a, w, hs, hf, hI => by
  have h0 : Region.ready md ops listed = [] := by
   cases hr : Region.ready md ops listed with
   | nil => rfl
   | cons x r =>
    exfalso
    have hm : x ∈ Region.ready md ops listed := by rw [hr]; simp
    obtain ⟨h1, o, ho, -⟩ := mem_ready.1 hm
    have hx := (Array.getElem?_eq_some_iff.1 ho).1
    have := openN_set (by omega) h1
    omega
  exact ⟨h0, hdone listed a w hI (fun i hi => ready_nil hE hs h0 i i (Nat.le_refl _) hi)⟩
 | fuel + 1, listed, a, w, hs, hf, hI => by
  refine ⟨fun h0 => hdone listed a w hI (fun i hi => ready_nil hE hs h0 i i (Nat.le_refl _) hi), fun i hi => ?_⟩
  obtain ⟨h1, o, ho, hd⟩ := mem_ready.1 hi
  have hx := (Array.getElem?_eq_some_iff.1 ho).1
  have h2 := openN_set (by omega) h1
  refine wpOp_mono (fun a' w' hI' => wpAny_inv I hE hstep hdone fuel _ a' w' (by simpa using hs) (by omega) hI') (hstep listed a w i hx hI (fun j hj => ?_) h1)
  unfold waitsB at hj
  rw [ho] at hj
  obtain ⟨e, he, h3⟩ := Array.any_eq_true'.1 hj
  simp only [Bool.and_eq_true, beq_iff_eq] at h3
  rw [← h3.2]
  exact hd e he h3.1
theorem openN_new (n : Nat) : openN (Array.replicate n false) ≤ n := by
 unfold openN
 simp
theorem wp_region_inv {id : Nat} {a : Act} {w : World} (hm : P.follows .mixedOrders = true) (I : Array Bool → Act → World → Prop) (hE : earlierB .any ops = true) (h0 : I (Array.replicate ops.size false) a w.drew)
  (hstep : ∀ listed a w i, i < ops.size → I listed a w → (∀ j, waitsB .any ops i j = true → listed.getD j false = true) → listed.getD i true = false → wpOp P ops Q i (I (listed.setIfInBounds i true)) a w)
  (hdone : ∀ listed a w, I listed a w → (∀ i, i < ops.size → listed.getD i false = true) → Q .normal a w) : (Code.region id ops true).wp P Q a w :=
 wp_region_any hm (wpAny_inv I hE hstep hdone _ _ _ _ (by simp) (openN_new _) h0)
theorem wp_region_mid {id : Nat} {ts : List Value} {ds : List Deferred} {w : World} (hm : P.follows .mixedOrders = true) (lo n : Nat) (J : Array Bool → List Value → World → Prop) (hE : earlierB .any ops = true)
  (hlen : (ts.take lo ++ (ts.drop lo).take n ++ ts.drop (lo + n)) = ts) (h0 : J (Array.replicate ops.size false) ((ts.drop lo).take n) w.drew)
  (hstep : ∀ listed m w i, i < ops.size → J listed m w → (∀ j, waitsB .any ops i j = true → listed.getD j false = true) → wpOp P ops Q i (fun a' w' => ∃ m', a' = ⟨⟨ts.take lo ++ m' ++ ts.drop (lo + n)⟩, ds⟩ ∧ J (listed.setIfInBounds i true) m' w') ⟨⟨ts.take lo ++ m ++ ts.drop (lo + n)⟩, ds⟩ w)
  (hdone : ∀ listed m w, J listed m w → (∀ i, i < ops.size → listed.getD i false = true) → Q .normal ⟨⟨ts.take lo ++ m ++ ts.drop (lo + n)⟩, ds⟩ w) : (Code.region id ops true).wp P Q ⟨⟨ts⟩, ds⟩ w := by
 refine wp_region_inv hm (fun l a w => ∃ m', a = ⟨⟨ts.take lo ++ m' ++ ts.drop (lo + n)⟩, ds⟩ ∧ J l m' w) hE ⟨(ts.drop lo).take n, by rw [hlen], h0⟩ ?_ ?_
 ·rintro listed a w i hi ⟨m, rfl, hJ⟩ hd -
  exact hstep listed m w i hi hJ hd
 ·rintro listed a w ⟨m, rfl, hJ⟩ hall
  exact hdone listed m w hJ hall
theorem wpOp_open {i : Nat} {o : Oper} {J : Act → World → Prop} {a : Act} {w : World} (ho : ops[i]? = some o) (hg : o.guard = none)
  (h : ∀ K : Act → World → Prop, (∀ a' w', J a' w' → K a' w') → Oper.wp P o a w K Q) : wpOp P ops Q i J a w :=
 wpOp_step ho fun K hK => by
  have hw : Region.wanted o (yielded ops a.tmps) = true := by simp [Region.wanted, hg]
  rw [if_pos hw]
  exact h K hK
theorem listed_keep {listed : Array Bool} {i j : Nat} {p : Prop} (h : i ≠ j) (hp : listed.getD j false = true → p) : (listed.setIfInBounds i true).getD j false = true → p := fun h2 => hp (by rw [← getD_set_ne false h]; exact h2)
end
end
end
section
open Go.RowKit
set_option maxHeartbeats 1000000
theorem wp_load_blk {P : Program} {o : Oper} {a : Act} {W : World} {K : Act → World → Prop} {Q : Exit → Act → World → Prop} (T : TypeId) (x : Operand) (ho : o.op = .load T x) (g : Nat) (hx : a.eval x = .pointer (some ⟨g, 0, none⟩)) {t : TypeId} {cs : Array Value} (hb : BlkAt W g cs t) (hr : RowV P T cs)
  (h : K (a.put o.dst (.agg cs)) W) : o.wp P a W K Q := by
 obtain ⟨d, hu, hd⟩ := hr.row.row
 exact wp_load_row T x ho g hx t cs (0, 0) d hb.blk hu (by cases d <;> simp_all) hr.row.size h
def cmpI (x : Bool) (a : Nat) (y : Bool) (b : Nat) : Int := if sgN x a < sgN y b then -1 else if sgN y b < sgN x a then 1 else sgN x a * cmpN a b
theorem sgN_range (neg : Bool) (m : Nat) : sgN neg m = -1 ∨ sgN neg m = 0 ∨ sgN neg m = 1 := by
 unfold sgN
 split
 ·exact .inr (.inl rfl)
 ·split
  ·exact .inl rfl
  ·exact .inr (.inr rfl)
theorem cmpN_range (a b : Nat) : cmpN a b = -1 ∨ cmpN a b = 0 ∨ cmpN a b = 1 := by
 unfold cmpN
 split
 ·exact .inl rfl
 ·split
  ·exact .inr (.inr rfl)
  ·exact .inr (.inl rfl)
set_option maxRecDepth 100000 in
theorem cmpInt_any {x : Bool} {a : Nat} {y : Bool} {b : Nat} (ha : a < bp 32) (hb : b < bp 32) {v : Int} (hv : cmpI x a y b = v) (w : World) : Calls Tryz.prog 171 #[.agg (intC x a), .agg (intC y b)] w (RetB (.int .i64 v) w) := by
 obtain ⟨s, hs⟩ : ∃ s, sgN x a = s := ⟨_, rfl⟩
 obtain ⟨t, ht⟩ : ∃ t, sgN y b = t := ⟨_, rfl⟩
 obtain ⟨c, hc⟩ : ∃ c, cmpN a b = c := ⟨_, rfl⟩
 have hs3 := sgN_range x a
 have ht3 := sgN_range y b
 have hc3 := cmpN_range a b
 unfold cmpI at hv
 rw [hs, ht, hc] at hv
 rw [hs] at hs3
 rw [ht] at ht3
 rw [hc] at hc3
 have g1 := fun w => sign_any ha hs w
 have g2 := fun w => sign_any hb ht w
 have g3 := fun w => split_any (neg := x) ha rfl w
 have g4 := fun w => split_any (neg := y) hb rfl w
 have g5 := fun {g k : Nat} {w : World} (h1 : MagAt w g a) (h2 : MagAt w k b) => cmp_any h1 h2 ha hb
 rw [hc] at g5
 have HV := Lib.hid hv
 have HR := Lib.hid (And.intro hs3 (And.intro ht3 hc3))
 have HI := Lib.hid (show BlkAt ((w.alloc (.cells (intC x a) 29)).alloc (.cells (intC y b) 29)) w.heap.size (intC x a) 29 from (BlkAt.new _ _ _).al _)
 have HJ := Lib.hid (show BlkAt ((w.alloc (.cells (intC x a) 29)).alloc (.cells (intC y b) 29)) (w.heap.size + 1) (intC y b) 29 from BlkAt.newAt _ _ _ (by simp))
 have HB := Lib.hid (bal (bal0 w (.cells (intC x a) 29)) (.cells (intC y b) 29))
 obtain ⟨q, hq⟩ : ∃ q, (x && !decide (a = 0)) = q := ⟨_, rfl⟩
 obtain ⟨r, hr⟩ : ∃ r, (y && !decide (b = 0)) = r := ⟨_, rfl⟩
 rw [hq] at g3
 rw [hr] at g4
 clear hq hr hs ht hc ha hb hv hs3 ht3 hc3
 go_enter Tryz.func171, Tryz.ntmps171
 go_wp2_with fail
 generalize (w.alloc _).alloc _ = w0 at *
 have hpl : Tryz.prog.follows .mixedOrders = true := by kernel_rfl
 refine wp_region_mid hpl 5 10 (fun l m W => ∃ s5 s6 s11 s12 s13 s14 : Value, m = [s5, s6, undef, undef, undef, undef, s11, s12, s13, s14] ∧ (l.getD 0 false = true → s11 = .agg (intC x a)) ∧ (l.getD 1 false = true → s12 = .int .i64 s) ∧ (l.getD 2 false = true → s13 = .agg (intC y b)) ∧ (l.getD 3 false = true → s14 = .int .i64 t) ∧ (l.getD 4 false = true → s5 = .int .i64 s) ∧ (l.getD 5 false = true → s6 = .int .i64 t) ∧ Below w0.heap.size w0 W) (by kernel_rfl) rfl ?_ ?_ ?_
 ·exact ⟨_, _, _, _, _, _, rfl, fun h => absurd h (by decide), fun h => absurd h (by decide), fun h => absurd h (by decide), fun h => absurd h (by decide), fun h => absurd h (by decide), fun h => absurd h (by decide), (Below.refl _ _).drew⟩
 ·rintro listed m W i hi ⟨s5, s6, s11, s12, s13, s14, rfl, h0, h1, h2, h3, h4, h5, hI⟩ hd
  have hc : i = 0 ∨ i = 1 ∨ i = 2 ∨ i = 3 ∨ i = 4 ∨ i = 5 := by
   have hi2 : i < 6 := hi
   omega
  clear hi
  rcases hc with rfl | rfl | rfl | rfl | rfl | rfl
  ·have HH := Lib.hid (And.intro trivial hI)
   refine wpOp_open rfl rfl (fun K hK => ?_)
   simp only [List.take_succ_cons, List.take_zero, List.drop_succ_cons, List.drop_zero, z7, z8]
   refine wp_load_blk 29 _ rfl w.heap.size rfl (HI.out.next HH.out.2) (rowInt x a) ?_
   exact hK _ _ ⟨_, rfl, _, _, _, _, _, _, rfl, fun _ => rfl, listed_keep (by decide) h1, listed_keep (by decide) h2, listed_keep (by decide) h3, listed_keep (by decide) h4, listed_keep (by decide) h5, HH.out.2⟩
  ·have d0 := h0 (hd 0 (by kernel_rfl))
   obtain rfl := d0
   have HH := Lib.hid (And.intro trivial hI)
   refine wpOp_open rfl rfl (fun K hK => ?_)
   simp only [List.take_succ_cons, List.take_zero, List.drop_succ_cons, List.drop_zero, z7, z8]
   go_simp
   go_at_call 93
   refine (g1 _).mono ?_
   rintro e w9 ⟨rfl, hb9⟩
   exact hK _ _ ⟨_, rfl, _, _, _, _, _, _, rfl, listed_keep (by decide) h0, fun _ => rfl, listed_keep (by decide) h2, listed_keep (by decide) h3, listed_keep (by decide) h4, listed_keep (by decide) h5, bnext HH.out.2 hb9⟩
  ·have HH := Lib.hid (And.intro trivial hI)
   refine wpOp_open rfl rfl (fun K hK => ?_)
   simp only [List.take_succ_cons, List.take_zero, List.drop_succ_cons, List.drop_zero, z7, z8]
   refine wp_load_blk 29 _ rfl (w.heap.size + 1) rfl (HJ.out.next HH.out.2) (rowInt y b) ?_
   exact hK _ _ ⟨_, rfl, _, _, _, _, _, _, rfl, listed_keep (by decide) h0, listed_keep (by decide) h1, fun _ => rfl, listed_keep (by decide) h3, listed_keep (by decide) h4, listed_keep (by decide) h5, HH.out.2⟩
  ·have d2 := h2 (hd 2 (by kernel_rfl))
   obtain rfl := d2
   have HH := Lib.hid (And.intro trivial hI)
   refine wpOp_open rfl rfl (fun K hK => ?_)
   simp only [List.take_succ_cons, List.take_zero, List.drop_succ_cons, List.drop_zero, z7, z8]
   go_simp
   go_at_call 93
   refine (g2 _).mono ?_
   rintro e w9 ⟨rfl, hb9⟩
   exact hK _ _ ⟨_, rfl, _, _, _, _, _, _, rfl, listed_keep (by decide) h0, listed_keep (by decide) h1, listed_keep (by decide) h2, fun _ => rfl, listed_keep (by decide) h4, listed_keep (by decide) h5, bnext HH.out.2 hb9⟩
  ·have d1 := h1 (hd 1 (by kernel_rfl))
   obtain rfl := d1
   have HH := Lib.hid (And.intro trivial hI)
   refine wpOp_open rfl rfl (fun K hK => ?_)
   simp only [List.take_succ_cons, List.take_zero, List.drop_succ_cons, List.drop_zero, z7, z8]
   go_simp
   exact hK _ _ ⟨_, rfl, _, _, _, _, _, _, rfl, listed_keep (by decide) h0, listed_keep (by decide) h1, listed_keep (by decide) h2, listed_keep (by decide) h3, fun _ => rfl, listed_keep (by decide) h5, HH.out.2⟩
  ·have d3 := h3 (hd 3 (by kernel_rfl))
   obtain rfl := d3
   have HH := Lib.hid (And.intro trivial hI)
   refine wpOp_open rfl rfl (fun K hK => ?_)
   simp only [List.take_succ_cons, List.take_zero, List.drop_succ_cons, List.drop_zero, z7, z8]
   go_simp
   exact hK _ _ ⟨_, rfl, _, _, _, _, _, _, rfl, listed_keep (by decide) h0, listed_keep (by decide) h1, listed_keep (by decide) h2, listed_keep (by decide) h3, listed_keep (by decide) h4, fun _ => rfl, HH.out.2⟩
 ·rintro listed m W ⟨s5, s6, s11, s12, s13, s14, rfl, h0, h1, h2, h3, h4, h5, hI⟩ hall
  obtain rfl := h0 (hall 0 (by decide))
  obtain rfl := h1 (hall 1 (by decide))
  obtain rfl := h2 (hall 2 (by decide))
  obtain rfl := h3 (hall 3 (by decide))
  obtain rfl := h4 (hall 4 (by decide))
  obtain rfl := h5 (hall 5 (by decide))
  have HI0 := Lib.hid hI
  clear hI hall
  simp only [List.take_succ_cons, List.take_zero, List.drop_succ_cons, List.drop_zero, z7, z8]
  have hv := HV.out
  by_cases hst : s = t
  ·subst hst
   have hvv : v = s * c := by rw [← hv, if_neg (by omega), if_neg (by omega)]
   have hw : IntKind.i64.wrap (s * c) = v := by
    rw [hvv]
    rcases HR.out.1 with h | h | h <;> rcases HR.out.2.2 with g | g | g <;> rw [h, g] <;> rfl
   clear hvv hv
   go_wp2_with (((with_reducible refine wpl_load rfl 29 _ rfl _ ?_ (HI.out.next HI0.out) (rowInt x a) ?_); exact rfl))
   refine (g3 _).mono ?_
   rintro e3 w3 ⟨rfl, hb3⟩
   have HB3 := Lib.hid (bal (bnext HI0.out hb3) (.cells (limA 32 a) 155))
   have HM3 := Lib.hid (show MagAt (w3.alloc (.cells (limA 32 a) 155)) w3.heap.size a from BlkAt.new _ _ _)
   clear hb3 HI0 g3
   go_wp2_with (first | ((with_reducible refine wpl_store_new rfl 155 _ _ rfl (limA 32 a) ?_ ?_ (rowMag _) ?_ ?_); exact rfl; exact rfl; exact rfl) | ((with_reducible refine wpl_load rfl 29 _ rfl _ ?_ (HJ.out.next HB3.out) (rowInt y b) ?_); exact rfl))
   refine (g4 _).mono ?_
   rintro e4 w4 ⟨rfl, hb4⟩
   have HB4 := Lib.hid (bal (bnext HB3.out hb4) (.cells (limA 32 b) 155))
   have HM4 := Lib.hid (show MagAt (w4.alloc (.cells (limA 32 b) 155)) w3.heap.size a from BlkAt.al (HM3.out.next hb4) _)
   have HN4 := Lib.hid (show MagAt (w4.alloc (.cells (limA 32 b) 155)) w4.heap.size b from BlkAt.new _ _ _)
   clear hb4 HB3 HM3 g4
   go_wp2_with (((with_reducible refine wpl_store_new rfl 155 _ _ rfl (limA 32 b) ?_ ?_ (rowMag _) ?_ ?_); exact rfl; exact rfl; exact rfl))
   refine (g5 HM4.out HN4.out).mono ?_
   rintro e5 w5 ⟨rfl, hb5⟩
   have HB5 := Lib.hid (bnext HB.out (bnext HB4.out hb5))
   clear hb5 HB4 HM4 HN4 g5
   go_wp2_with fail
   go_ret
   exact ⟨rfl, HB5.out⟩
  ·have HB5 := Lib.hid (bnext HB.out HI0.out)
   have g0 : (s != t) = true := by simpa using hst
   by_cases hlt : s < t
   ·have hvv : v = -1 := by rw [← hv, if_pos hlt]
    have HVV := Lib.hid hvv
    clear hvv hv
    go_wp2_with fail
    go_ret
    exact ⟨ret_int HVV.out.symm, HB5.out⟩
   ·have hvv : v = 1 := by rw [← hv, if_neg hlt, if_pos (by omega)]
    have HVV := Lib.hid hvv
    clear hvv hv
    go_wp2_with fail
    go_ret
    exact ⟨ret_int HVV.out.symm, HB5.out⟩
end
section
open Go.RowKit
abbrev Ent := Nat × Array Value × TypeId
structure Fr (w W : World) (L : List Ent) : Prop where
 below : Below w.heap.size w W
 blk : ∀ x ∈ L, BlkAt W x.1 x.2.1 x.2.2
 own : ∀ x ∈ L, w.heap.size ≤ x.1
 dis : (L.map (·.1)).Nodup
section
variable {w W W' : World} {L A : List Ent} {b i : Nat} {cs cs' : Array Value} {t : TypeId} {x : Ent}
theorem Fr.start (w : World) : Fr w w [] := ⟨Below.refl _ _, by simp, by simp, by simp⟩
theorem Fr.next (h : Fr w W L) (hb : Below W.heap.size W W') : Fr w W' L := ⟨bnext h.below hb, fun x hx => (h.blk x hx).next hb, h.own, h.dis⟩
theorem Fr.drew (h : Fr w W L) : Fr w W.drew L := h.next (Below.refl _ _).drew
theorem Fr.drewN (h : Fr w W L) (n : Nat) : Fr w (W.drewN n) L := h.next (bdn W n)
theorem Fr.alloc (h : Fr w W L) (cs : Array Value) (t : TypeId) : Fr w (W.alloc (.cells cs t)) ((W.heap.size, cs, t) :: L) := by
 refine ⟨bnext h.below (bal0 W _), fun x hx => ?_, fun x hx => ?_, ?_⟩
 ·rcases List.mem_cons.1 hx with rfl | hx
  ·exact BlkAt.new W cs t
  ·exact (h.blk x hx).al _
 ·rcases List.mem_cons.1 hx with rfl | hx
  ·exact h.below.size
  ·exact h.own x hx
 ·rw [List.map_cons, List.nodup_cons]
  refine ⟨fun hm => ?_, h.dis⟩
  obtain ⟨y, hy, he⟩ := List.mem_map.1 hm
  have := (h.blk y hy).lt
  omega
theorem Fr.tl (h : Fr w W (x :: L)) : Fr w W L := ⟨h.below, fun y hy => h.blk y (List.mem_cons_of_mem _ hy), fun y hy => h.own y (List.mem_cons_of_mem _ hy), (List.nodup_cons.1 (by simpa using h.dis)).2⟩
theorem Fr.here (h : Fr w W ((b, cs, t) :: L)) : BlkAt W b cs t := h.blk (b, cs, t) (List.mem_cons_self ..)
theorem Fr.ge (h : Fr w W ((b, cs, t) :: L)) : w.heap.size ≤ b := h.own (b, cs, t) (List.mem_cons_self ..)
theorem Fr.is (h : Fr w W ((b, cs, t) :: L)) (e : cs = cs') : Fr w W ((b, cs', t) :: L) := e ▸ h
theorem Fr.change (h : Fr w W (A ++ (b, cs, t) :: L)) (hb : BlkAt W' b cs' t) (hf : ∀ k ds u, k ≠ b → BlkAt W k ds u → BlkAt W' k ds u) (hbl : Below w.heap.size w W') : Fr w W' (A ++ (b, cs', t) :: L) := by
 have hm : (A ++ (b, cs', t) :: L).map (·.1) = (A ++ (b, cs, t) :: L).map (·.1) := by simp
 have hd := h.dis
 refine ⟨hbl, fun x hx => ?_, fun x hx => ?_, by rw [hm]; exact hd⟩
 ·rw [List.map_append, List.map_cons] at hd
  rcases List.mem_append.1 hx with hx | hx
  ·refine hf _ _ _ (fun e => ?_) (h.blk x (List.mem_append.2 (.inl hx)))
   have := (List.nodup_append.1 hd).2.2 x.1 (List.mem_map.2 ⟨x, hx, rfl⟩) b (List.mem_cons_self ..)
   exact this e
  ·rcases List.mem_cons.1 hx with rfl | hx
   ·exact hb
   ·refine hf _ _ _ (fun e => ?_) (h.blk x (List.mem_append.2 (.inr (List.mem_cons_of_mem _ hx))))
    have := (List.nodup_cons.1 (List.nodup_append.1 hd).2.1).1
    exact this (e ▸ List.mem_map.2 ⟨x, hx, rfl⟩)
 ·rcases List.mem_append.1 hx with hx | hx
  ·exact h.own x (List.mem_append.2 (.inl hx))
  ·rcases List.mem_cons.1 hx with rfl | hx
   ·exact h.own (b, cs, t) (List.mem_append.2 (.inr (List.mem_cons_self ..)))
   ·exact h.own x (List.mem_append.2 (.inr (List.mem_cons_of_mem _ hx)))
theorem Fr.geA (h : Fr w W (A ++ (b, cs, t) :: L)) : w.heap.size ≤ b := h.own (b, cs, t) (List.mem_append.2 (.inr (List.mem_cons_self ..)))
theorem Fr.atA (h : Fr w W (A ++ (b, cs, t) :: L)) : BlkAt W b cs t := h.blk (b, cs, t) (List.mem_append.2 (.inr (List.mem_cons_self ..)))
theorem Fr.rowA (h : Fr w W (A ++ (b, cs, t) :: L)) (cs' : Array Value) : Fr w (W.setRow b cs') (A ++ (b, cs', t) :: L) :=
 h.change (h.atA.set cs') (fun k ds u hk hb => hb.setFar cs' hk) (Below.setRow h.below h.geA cs')
theorem Fr.cellA (h : Fr w W (A ++ (b, cs, t) :: L)) (i : Nat) (v : Value) : Fr w (W.setCell ⟨b, i, none⟩ v) (A ++ (b, cs.setIfInBounds i v, t) :: L) :=
 h.change (h.atA.cellSet i v) (fun k ds u hk hb => hb.cellFar i v hk) (h.below.setCell h.geA v)
end
theorem mixP : Tryz.prog.follows .mixedOrders = true := by kernel_rfl
theorem nf {n i : Nat} {p : Prop} (h : (Array.replicate n false).getD i false = true) : p := by
 by_cases hi : i < n
 ·simp [Array.getD, hi] at h
 ·simp [Array.getD, hi] at h
def putAll (ts : List Value) : List Nat → List Value → List Value
 | i :: sl, v :: vs => putAll (ts.set i v) sl vs
 | _, _ => ts
section
variable {P : Program} {ops : Array Oper} {Q : Exit → Act → World → Prop}
theorem wp_region_slots {id : Nat} {ts : List Value} {ds : List Deferred} {w : World} (hm : P.follows .mixedOrders = true) (sl : List Nat) (J : Array Bool → List Value → World → Prop) (hE : earlierB .any ops = true)
  (hlen : putAll ts sl (sl.map fun i => ts.getD i undef) = ts) (h0 : J (Array.replicate ops.size false) (sl.map fun i => ts.getD i undef) w.drew)
  (hstep : ∀ listed m w i, i < ops.size → listed.size = ops.size → listed.getD i false = false → J listed m w → (∀ j, waitsB .any ops i j = true → listed.getD j false = true) → wpOp P ops Q i (fun a' w' => ∃ m', a' = ⟨(putAll ts sl m').toArray, ds⟩ ∧ J (listed.setIfInBounds i true) m' w') ⟨(putAll ts sl m).toArray, ds⟩ w)
  (hdone : ∀ listed m w, J listed m w → (∀ i, i < ops.size → listed.getD i false = true) → Q .normal ⟨(putAll ts sl m).toArray, ds⟩ w) : (Code.region id ops true).wp P Q ⟨ts.toArray, ds⟩ w := by
 refine wp_region_inv hm (fun l a w => l.size = ops.size ∧ ∃ m', a = ⟨(putAll ts sl m').toArray, ds⟩ ∧ J l m' w) hE ⟨by simp, _, by rw [hlen], h0⟩ ?_ ?_
 ·rintro listed a w i hi ⟨hs, m, rfl, hJ⟩ hd hf
  have hf2 : listed.getD i false = false := by
   have hl : i < listed.size := by omega
   simpa [Array.getD, hl] using hf
  exact wpOp_mono (fun a' w' h => ⟨by simpa using hs, h⟩) (hstep listed m w i hi hs hf2 hJ hd)
 ·rintro listed a w ⟨hs, m, rfl, hJ⟩ hall
  exact hdone listed m w hJ hall
end
structure OpW (P : Program) (o : Oper) (a : Act) (W : World) (K : Act → World → Prop) (Q : Exit → Act → World → Prop) : Prop where
 out : o.wp P a W K Q
theorem wpOp_want {P : Program} {ops : Array Oper} {Q : Exit → Act → World → Prop} {i : Nat} {o : Oper} {J : Act → World → Prop} {a : Act} {w : World} (ho : ops[i]? = some o) (hw : Region.wanted o (yielded ops a.tmps) = true)
  (h : ∀ K : Act → World → Prop, (∀ a' w', J a' w' → K a' w') → OpW P o a w K Q) : wpOp P ops Q i J a w :=
 wpOp_step ho fun K hK => by
  rw [if_pos hw]
  exact (h K hK).out
theorem wpOp_skip {P : Program} {ops : Array Oper} {Q : Exit → Act → World → Prop} {i : Nat} {o : Oper} {J : Act → World → Prop} {a : Act} {w : World} (ho : ops[i]? = some o) (hw : Region.wanted o (yielded ops a.tmps) = false)
  (h : ∀ K : Act → World → Prop, (∀ a' w', J a' w' → K a' w') → K (a.put o.dst undef) w) : wpOp P ops Q i J a w :=
 wpOp_step ho fun K hK => by
  rw [if_neg (by simp [hw])]
  exact h K hK
theorem Fr.sub {w W : World} {L L' : List Ent} (h : Fr w W L) (hs : L'.Sublist L) : Fr w W L' :=
 ⟨h.below, fun x hx => h.blk x (hs.subset hx), fun x hx => h.own x (hs.subset hx), (hs.map _).nodup h.dis⟩
theorem Fr.mid {w W : World} {L A : List Ent} {x : Ent} (h : Fr w W (x :: (A ++ L))) : Fr w W (A ++ x :: L) := by
 have hp : (A ++ x :: L).Perm (x :: (A ++ L)) := List.perm_middle
 exact ⟨h.below, fun y hy => h.blk y (hp.subset hy), fun y hy => h.own y (hp.subset hy), (hp.map _).nodup_iff.2 h.dis⟩
theorem getD_on {l : Array Bool} {i : Nat} (h : i < l.size) : (l.setIfInBounds i true).getD i false = true := by
 simp [Array.getD, h]
theorem listed_keepF {l : Array Bool} {i j : Nat} {p : Prop} (h : i ≠ j) (hp : l.getD j false = false → p) : (l.setIfInBounds i true).getD j false = false → p := fun h2 => hp (by rw [← getD_set_ne false h]; exact h2)
noncomputable def magOf (W : World) (b : Nat) : Nat := open Classical in if h : ∃ m, m < bp 32 ∧ MagAt W b m then Classical.choose h else 0
theorem magOf_is {W : World} {b m : Nat} (hm : m < bp 32) (h : MagAt W b m) : magOf W b = m := by
 have he : ∃ m, m < bp 32 ∧ MagAt W b m := ⟨m, hm, h⟩
 unfold magOf
 rw [dif_pos he]
 obtain ⟨h1, h2⟩ := Classical.choose_spec he
 have e := h2.blk.blk.symm.trans h.blk.blk
 injection e with e
 injection e with e1
 exact limA_inj h1 hm e1
def onl (c : Bool) (x : Ent) : List Ent := if c then [x] else []
theorem getD_keep {l : Array Bool} {i j : Nat} (h : i ≠ j) : (l.setIfInBounds i true).getD j false = l.getD j false := getD_set_ne false h
@[reducible] def Hold (p : Prop) : Prop := p
structure Lies (F A : List Ent) (b : Nat) (cs : Array Value) (t : TypeId) (L : List Ent) : Prop where
 eq : F = A ++ (b, cs, t) :: L
section
variable {b : Nat} {cs : Array Value} {t : TypeId} {F A L : List Ent} {x : Ent}
theorem Lies.here : Lies ((b, cs, t) :: L) [] b cs t L := ⟨rfl⟩
theorem Lies.tl (h : Lies F A b cs t L) : Lies (x :: F) (x :: A) b cs t L := ⟨by rw [h.eq]; rfl⟩
theorem Lies.app {b : Nat} {cs : Array Value} {t : TypeId} {F A L X : List Ent} (h : Lies F A b cs t L) : Lies (X ++ F) (X ++ A) b cs t L := ⟨by rw [h.eq, List.append_assoc]⟩
theorem tL {X B : List Ent} {b : Nat} {cs : Array Value} {t : TypeId} {Y : List Ent} (h : Lies X B b cs t Y := by repeat (first | exact Lies.here | apply Lies.tl | apply Lies.app)) : Lies X B b cs t Y := h
end
section
variable {P : Program} {o : Oper} {a : Act} {w W : World} {K : Act → World → Prop} {Q : Exit → Act → World → Prop} {F A L : List Ent} {b : Nat} {cs : Array Value} {t : TypeId}
theorem Fr.get (h : Fr w W F) (hl : Lies F A b cs t L) : BlkAt W b cs t := by
 rw [hl.eq] at h
 exact h.atA
theorem op_load (h : Fr w W F) (T : TypeId) (x : Operand) (ho : o.op = .load T x) (hx : a.eval x = .pointer (some ⟨b, 0, none⟩)) (hl : Lies F A b cs t L) (hr : RowV P T cs) (hk : K (a.put o.dst (.agg cs)) W) : OpW P o a W K Q :=
 ⟨wp_load_blk T x ho b hx (h.get hl) hr hk⟩
theorem wp_load_midF (T : TypeId) (x : Operand) (ho : o.op = .load T x) (g k : Nat) (hx : a.eval x = .pointer (some ⟨g, k, none⟩)) (hb : BlkAt W g cs t) {ds : Array Value} (hd : (cs.toList.drop k).take ds.size = ds.toList) (hr : RowV P T ds)
  (h : K (a.put o.dst (.agg ds)) W) : o.wp P a W K Q := by
 obtain ⟨d, hu, hd2⟩ := hr.row.row
 have hc : W.rangeAt g k ds.toList := fun j v hv => hb.cell (by
  rw [← hd] at hv
  have hj : j < ds.size := by
   have := (List.getElem?_eq_some_iff.1 hv).1
   simp at this
   omega
  rw [List.getElem?_take_of_lt hj, List.getElem?_drop] at hv
  simpa using hv)
 exact wp_load_mid T x ho g k hx ds.toList d hc hu (by cases d <;> simp_all [TypeDesc.isRow]) (by simpa using hr.row.size) h
theorem op_load_mid (h : Fr w W F) (T : TypeId) (x : Operand) (ho : o.op = .load T x) {k : Nat} (hx : a.eval x = .pointer (some ⟨b, k, none⟩)) (hl : Lies F A b cs t L) {ds : Array Value} (hd : (cs.toList.drop k).take ds.size = ds.toList) (hr : RowV P T ds) (hk : K (a.put o.dst (.agg ds)) W) : OpW P o a W K Q :=
 ⟨wp_load_midF T x ho b k hx (h.get hl) hd hr hk⟩
theorem op_alloc (h : Fr w W F) (hrun : (execOp a.eval o).run P W = .ok (.value (.pointer (some ⟨W.heap.size, 0, none⟩))) (W.alloc (.cells cs t)))
  (hk : Hold (∀ b W', Fr w W' ((b, cs, t) :: F) → K (a.put o.dst (.pointer (some ⟨b, 0, none⟩))) W')) : OpW P o a W K Q := by
 refine ⟨?_⟩
 unfold Oper.wp
 rw [hrun]
 exact hk _ _ (h.alloc cs t)
theorem op_store (h : Fr w W F) (T : TypeId) (x y : Operand) (ho : o.op = .store T x y) (hx : a.eval x = .pointer (some ⟨b, 0, none⟩)) {ds : Array Value} (hy : a.eval y = .agg ds) (hl : Lies F A b cs t L) (hr : RowV P T ds) (hs : cs.size = ds.size)
  (hk : ∀ W', Fr w W' (A ++ (b, ds, t) :: L) → K (a.put o.dst undef) W') : OpW P o a W K Q := by
 have hb := h.get hl
 rw [hl.eq] at h
 exact ⟨wp_store_row T x y ho b ds hx hy t cs hb.blk hr.row.size hs hr.one (hk _ (h.rowA ds))⟩
theorem fr_call {f : FuncId} {args : Array Value} {v : Value} {post : Ending → World → Prop} (h : Fr w W F) (hc : Calls P f args W (RetB v W)) (hk : ∀ W', Fr w W' F → post (.returned v) W') : Calls P f args W post := by
 refine hc.mono ?_
 rintro e W' ⟨rfl, hb⟩
 exact hk _ (h.next hb)
theorem wpList_want {ops : Array Oper} {rest : List Oper} (hw : Region.wanted o (yielded ops a.tmps) = true) (h : ∀ K : Act → World → Prop, (∀ a w, wpList P ops Q rest a w → K a w) → o.wp P a W K Q) : wpList P ops Q (o :: rest) a W :=
 wpList_step fun K hK => by rw [if_pos hw]; exact h K hK
theorem op_build (T : TypeId) (xs : Array (Nat × Operand)) (ho : o.op = .build T xs) (hf : P.built T (xs.map fun (i, x) => (i, a.eval x)).toList = some cs) (hk : K (a.put o.dst (.agg cs)) W) : OpW P o a W K Q := by
 have hrun : (execOp a.eval o).run P W = .ok (.value (.agg cs)) W := by
  unfold execOp
  simp only [ho, Sem.run_bind, run_build W T _ cs hf, Result.andThen_ok]
  rfl
 refine ⟨?_⟩
 unfold Oper.wp
 rw [hrun]
 exact hk
theorem wplF_load_mid {ops : Array Oper} {rest : List Oper} (h : Fr w W F) (hw : Region.wanted o (yielded ops a.tmps) = true) (T : TypeId) (x : Operand) (ho : o.op = .load T x) {k : Nat} (hx : a.eval x = .pointer (some ⟨b, k, none⟩)) (hl : Lies F A b cs t L) {ds : Array Value} (hd : (cs.toList.drop k).take ds.size = ds.toList) (hr : RowV P T ds) (hk : wpList P ops Q rest (a.put o.dst (.agg ds)) W) : wpList P ops Q (o :: rest) a W :=
 wpList_want hw fun K hK => (op_load_mid h T x ho hx hl hd hr (hK _ _ hk)).out
theorem wplF_alloc {ops : Array Oper} {rest : List Oper} (h : Fr w W F) (hw : Region.wanted o (yielded ops a.tmps) = true) (hrun : (execOp a.eval o).run P W = .ok (.value (.pointer (some ⟨W.heap.size, 0, none⟩))) (W.alloc (.cells cs t)))
  (hk : Hold (∀ b W', Fr w W' ((b, cs, t) :: F) → wpList P ops Q rest (a.put o.dst (.pointer (some ⟨b, 0, none⟩))) W')) : wpList P ops Q (o :: rest) a W :=
 wpList_want hw fun K hK => (op_alloc h hrun (fun b W' hF => hK _ _ (hk b W' hF))).out
theorem wplF_build {ops : Array Oper} {rest : List Oper} (hw : Region.wanted o (yielded ops a.tmps) = true) (T : TypeId) (xs : Array (Nat × Operand)) (ho : o.op = .build T xs) (hf : P.built T (xs.map fun (i, x) => (i, a.eval x)).toList = some cs) (hk : wpList P ops Q rest (a.put o.dst (.agg cs)) W) : wpList P ops Q (o :: rest) a W :=
 wpList_want hw fun K hK => (op_build T xs ho hf (hK _ _ hk)).out
end
section
variable {o : Oper} {a : Act} {W : World}
theorem alloc_int (ho : o.op = .alloc 29) : (execOp a.eval o).run Tryz.prog W = .ok (.value (.pointer (some ⟨W.heap.size, 0, none⟩))) (W.alloc (.cells (intC false 0) 29)) := by
 obtain ⟨dst, op, pos, af, g, x⟩ := o
 subst ho
 rw [intZ]
 go_simp
theorem alloc_mag (ho : o.op = .alloc 155) : (execOp a.eval o).run Tryz.prog W = .ok (.value (.pointer (some ⟨W.heap.size, 0, none⟩))) (W.alloc (.cells (limA 32 0) 155)) := by
 obtain ⟨dst, op, pos, af, g, x⟩ := o
 subst ho
 rw [magZ]
 go_simp
theorem box_int {x : Operand} {cs : Array Value} (ho : o.op = .box 29 x) (hx : a.eval x = .agg cs) : (execOp a.eval o).run Tryz.prog W = .ok (.value (.pointer (some ⟨W.heap.size, 0, none⟩))) (W.alloc (.cells cs 29)) := by
 obtain ⟨dst, op, pos, af, g, z⟩ := o
 subst ho
 unfold execOp
 simp only [hx]
 go_simp
theorem box_mag {x : Operand} {cs : Array Value} (ho : o.op = .box 155 x) (hx : a.eval x = .agg cs) : (execOp a.eval o).run Tryz.prog W = .ok (.value (.pointer (some ⟨W.heap.size, 0, none⟩))) (W.alloc (.cells cs 155)) := by
 obtain ⟨dst, op, pos, af, g, z⟩ := o
 subst ho
 unfold execOp
 simp only [hx]
 go_simp
theorem op_alloc_int {w : World} {F : List Ent} {K : Act → World → Prop} {Q : Exit → Act → World → Prop} (h : Fr w W F) (ho : o.op = .alloc 29) (hk : Hold (∀ b W', Fr w W' ((b, intC false 0, 29) :: F) → K (a.put o.dst (.pointer (some ⟨b, 0, none⟩))) W')) : OpW Tryz.prog o a W K Q := op_alloc h (alloc_int ho) hk
theorem op_box_int {w : World} {F : List Ent} {K : Act → World → Prop} {Q : Exit → Act → World → Prop} {x : Operand} {cs : Array Value} (h : Fr w W F) (ho : o.op = .box 29 x) (hx : a.eval x = .agg cs) (hk : Hold (∀ b W', Fr w W' ((b, cs, 29) :: F) → K (a.put o.dst (.pointer (some ⟨b, 0, none⟩))) W')) : OpW Tryz.prog o a W K Q := op_alloc h (box_int ho hx) hk
theorem op_alloc_mag {w : World} {F : List Ent} {K : Act → World → Prop} {Q : Exit → Act → World → Prop} (h : Fr w W F) (ho : o.op = .alloc 155) (hk : Hold (∀ b W', Fr w W' ((b, limA 32 0, 155) :: F) → K (a.put o.dst (.pointer (some ⟨b, 0, none⟩))) W')) : OpW Tryz.prog o a W K Q := op_alloc h (alloc_mag ho) hk
theorem op_box_mag {w : World} {F : List Ent} {K : Act → World → Prop} {Q : Exit → Act → World → Prop} {x : Operand} {cs : Array Value} (h : Fr w W F) (ho : o.op = .box 155 x) (hx : a.eval x = .agg cs) (hk : Hold (∀ b W', Fr w W' ((b, cs, 155) :: F) → K (a.put o.dst (.pointer (some ⟨b, 0, none⟩))) W')) : OpW Tryz.prog o a W K Q := op_alloc h (box_mag ho hx) hk
theorem built_intZ : Tryz.prog.built 29 [] = some (intC false 0) := by rw [intZ]; kernel_rfl
theorem built_magZ : Tryz.prog.built 155 [] = some (limA 32 0) := by rw [magZ]; kernel_rfl
theorem built_mag1 : Tryz.prog.built 155 [(0, .int .u32 1)] = some (limA 32 1) := by kernel_rfl
theorem opB_int0  {K : Act → World → Prop} {Q : Exit → Act → World → Prop} (ho : o.op = .build 29 #[])  (hk : K (a.put o.dst (.agg (intC false 0))) W) : OpW Tryz.prog o a W K Q :=
 op_build _ _ ho (by simp only [List.map_toArray, List.map_cons, List.map_nil]; exact built_intZ) hk
theorem opB_mag0  {K : Act → World → Prop} {Q : Exit → Act → World → Prop} (ho : o.op = .build 155 #[])  (hk : K (a.put o.dst (.agg (limA 32 0))) W) : OpW Tryz.prog o a W K Q :=
 op_build _ _ ho (by simp only [List.map_toArray, List.map_cons, List.map_nil]; exact built_magZ) hk
theorem opB_mag1  {K : Act → World → Prop} {Q : Exit → Act → World → Prop} (ho : o.op = .build 155 #[(0, .const (.int .u32 1))])  (hk : K (a.put o.dst (.agg (limA 32 1))) W) : OpW Tryz.prog o a W K Q :=
 op_build _ _ ho (by simp only [List.map_toArray, List.map_cons, List.map_nil]; rw [show a.eval (.const (.int .u32 1)) = .int .u32 1 from rfl]; exact built_mag1) hk
theorem opB_int {x y : Operand} {n : Bool} {m : Nat} {K : Act → World → Prop} {Q : Exit → Act → World → Prop} (ho : o.op = .build 29 #[(0, x), (1, y)]) (hx : a.eval x = .bool n) (hy : a.eval y = .agg (limA 32 m)) (hk : K (a.put o.dst (.agg (intC n m))) W) : OpW Tryz.prog o a W K Q :=
 op_build _ _ ho (by simp only [List.map_toArray, List.map_cons, List.map_nil, hx, hy]; exact built_int n m) hk
end
section
variable {P : Program} {a : Act} {w W : World} {K : Act → World → Prop} {Q : Exit → Act → World → Prop} {F A L : List Ent} {b : Nat} {cs ds : Array Value} {t T : TypeId} {x y : Operand} {ops : Array Oper} {rest : List Oper} {dst : Option Tmp} {ty : TypeId} {pos : String} {af : Array Edge} {gd : Option (Nat × Bool)}
theorem gL  (h : Fr w W F) (hx : a.eval x = .pointer (some ⟨b, 0, none⟩)) (hl : Lies F A b cs t L) (hr : RowV P T cs) (hk : K (a.put dst (.agg cs)) W) : OpW P ⟨dst, .load T x, ty, pos, af, gd⟩ a W K Q := op_load h T x rfl hx hl hr hk
theorem fLm {k : Nat} (h : Fr w W F) (hw : Region.wanted ⟨dst, .load T x, ty, pos, af, gd⟩ (yielded ops a.tmps) = true) (hx : a.eval x = .pointer (some ⟨b, k, none⟩)) (hl : Lies F A b cs t L) (hd : (cs.toList.drop k).take ds.size = ds.toList) (hr : RowV P T ds) (hk : wpList P ops Q rest (a.put dst (.agg ds)) W) : wpList P ops Q (⟨dst, .load T x, ty, pos, af, gd⟩ :: rest) a W := wplF_load_mid h hw T x rfl hx hl hd hr hk
theorem gLm {k : Nat} (h : Fr w W F) (hx : a.eval x = .pointer (some ⟨b, k, none⟩)) (hl : Lies F A b cs t L) (hd : (cs.toList.drop k).take ds.size = ds.toList) (hr : RowV P T ds) (hk : K (a.put dst (.agg ds)) W) : OpW P ⟨dst, .load T x, ty, pos, af, gd⟩ a W K Q := op_load_mid h T x rfl hx hl hd hr hk
theorem gS  (h : Fr w W F) (hx : a.eval x = .pointer (some ⟨b, 0, none⟩)) (hy : a.eval y = .agg ds) (hl : Lies F A b cs t L) (hr : RowV P T ds) (hs : cs.size = ds.size) (hk : ∀ W', Fr w W' (A ++ (b, ds, t) :: L) → K a W') : OpW P ⟨none, .store T x y, ty, pos, af, gd⟩ a W K Q := op_store h T x y rfl hx hy hl hr hs hk
end
section
variable {a : Act} {w W : World} {K : Act → World → Prop} {Q : Exit → Act → World → Prop} {F A L : List Ent} {b : Nat} {cs ds : Array Value} {t T : TypeId} {x y : Operand} {ops : Array Oper} {rest : List Oper} {dst : Option Tmp} {ty : TypeId} {pos : String} {af : Array Edge} {gd : Option (Nat × Bool)}
theorem gA_int  (h : Fr w W F)  (hk : Hold (∀ b W', Fr w W' ((b, intC false 0, 29) :: F) → K (a.put dst (.pointer (some ⟨b, 0, none⟩))) W')) : OpW Tryz.prog ⟨dst, .alloc 29, ty, pos, af, gd⟩ a W K Q := op_alloc_int h rfl hk
theorem gX_int  (h : Fr w W F) (hx : a.eval x = .agg cs) (hk : Hold (∀ b W', Fr w W' ((b, cs, 29) :: F) → K (a.put dst (.pointer (some ⟨b, 0, none⟩))) W')) : OpW Tryz.prog ⟨dst, .box 29 x, ty, pos, af, gd⟩ a W K Q := op_box_int h rfl hx hk
theorem gA_mag  (h : Fr w W F)  (hk : Hold (∀ b W', Fr w W' ((b, limA 32 0, 155) :: F) → K (a.put dst (.pointer (some ⟨b, 0, none⟩))) W')) : OpW Tryz.prog ⟨dst, .alloc 155, ty, pos, af, gd⟩ a W K Q := op_alloc_mag h rfl hk
theorem gX_mag  (h : Fr w W F) (hx : a.eval x = .agg cs) (hk : Hold (∀ b W', Fr w W' ((b, cs, 155) :: F) → K (a.put dst (.pointer (some ⟨b, 0, none⟩))) W')) : OpW Tryz.prog ⟨dst, .box 155 x, ty, pos, af, gd⟩ a W K Q := op_box_mag h rfl hx hk
theorem gB_int0   (hk : K (a.put dst (.agg (intC false 0))) W) : OpW Tryz.prog ⟨dst, .build 29 #[], ty, pos, af, gd⟩ a W K Q := opB_int0 rfl  hk
theorem gB_mag0   (hk : K (a.put dst (.agg (limA 32 0))) W) : OpW Tryz.prog ⟨dst, .build 155 #[], ty, pos, af, gd⟩ a W K Q := opB_mag0 rfl  hk
theorem gB_mag1   (hk : K (a.put dst (.agg (limA 32 1))) W) : OpW Tryz.prog ⟨dst, .build 155 #[(0, .const (.int .u32 1))], ty, pos, af, gd⟩ a W K Q := opB_mag1 rfl  hk
theorem gB_int {n : Bool} {m : Nat} (hx : a.eval x = .bool n) (hy : a.eval y = .agg (limA 32 m)) (hk : K (a.put dst (.agg (intC n m))) W) : OpW Tryz.prog ⟨dst, .build 29 #[(0, x), (1, y)], ty, pos, af, gd⟩ a W K Q := opB_int rfl hx hy hk
end
end
section
open Go.RowKit
theorem putAll_self (ts : List Value) (sl : List Nat) : putAll ts sl (sl.map fun i => ts.getD i undef) = ts := by
 induction sl with
 | nil => rfl
 | cons i sl ih =>
  have e : ts.set i (ts.getD i undef) = ts := by
   by_cases h : i < ts.length
   ·simp [List.getD, h]
   ·exact List.set_eq_of_length_le (by omega)
  show putAll (ts.set i (ts.getD i undef)) sl (sl.map fun i => ts.getD i undef) = ts
  rw [e]
  exact ih
theorem dr_c4 {i : Nat} (h : i < 4) : i = 0 ∨ i = 1 ∨ i = 2 ∨ i = 3 := by omega
theorem dr_c5 {i : Nat} (h : i < 5) : i = 0 ∨ i = 1 ∨ i = 2 ∨ i = 3 ∨ i = 4 := by omega
theorem dr_c6 {i : Nat} (h : i < 6) : i = 0 ∨ i = 1 ∨ i = 2 ∨ i = 3 ∨ i = 4 ∨ i = 5 := by omega
theorem dr_c7 {i : Nat} (h : i < 7) : i = 0 ∨ i = 1 ∨ i = 2 ∨ i = 3 ∨ i = 4 ∨ i = 5 ∨ i = 6 := by omega
theorem dr_c8 {i : Nat} (h : i < 8) : i = 0 ∨ i = 1 ∨ i = 2 ∨ i = 3 ∨ i = 4 ∨ i = 5 ∨ i = 6 ∨ i = 7 := by omega
theorem dr_c9 {i : Nat} (h : i < 9) : i = 0 ∨ i = 1 ∨ i = 2 ∨ i = 3 ∨ i = 4 ∨ i = 5 ∨ i = 6 ∨ i = 7 ∨ i = 8 := by omega
theorem dr_c10 {i : Nat} (h : i < 10) : i = 0 ∨ i = 1 ∨ i = 2 ∨ i = 3 ∨ i = 4 ∨ i = 5 ∨ i = 6 ∨ i = 7 ∨ i = 8 ∨ i = 9 := by omega
theorem dr_c11 {i : Nat} (h : i < 11) : i = 0 ∨ i = 1 ∨ i = 2 ∨ i = 3 ∨ i = 4 ∨ i = 5 ∨ i = 6 ∨ i = 7 ∨ i = 8 ∨ i = 9 ∨ i = 10 := by omega
theorem dr_c12 {i : Nat} (h : i < 12) : i = 0 ∨ i = 1 ∨ i = 2 ∨ i = 3 ∨ i = 4 ∨ i = 5 ∨ i = 6 ∨ i = 7 ∨ i = 8 ∨ i = 9 ∨ i = 10 ∨ i = 11 := by omega
theorem dr_c13 {i : Nat} (h : i < 13) : i = 0 ∨ i = 1 ∨ i = 2 ∨ i = 3 ∨ i = 4 ∨ i = 5 ∨ i = 6 ∨ i = 7 ∨ i = 8 ∨ i = 9 ∨ i = 10 ∨ i = 11 ∨ i = 12 := by omega
theorem dr_c14 {i : Nat} (h : i < 14) : i = 0 ∨ i = 1 ∨ i = 2 ∨ i = 3 ∨ i = 4 ∨ i = 5 ∨ i = 6 ∨ i = 7 ∨ i = 8 ∨ i = 9 ∨ i = 10 ∨ i = 11 ∨ i = 12 ∨ i = 13 := by omega
theorem dr_c16 {i : Nat} (h : i < 16) : i = 0 ∨ i = 1 ∨ i = 2 ∨ i = 3 ∨ i = 4 ∨ i = 5 ∨ i = 6 ∨ i = 7 ∨ i = 8 ∨ i = 9 ∨ i = 10 ∨ i = 11 ∨ i = 12 ∨ i = 13 ∨ i = 14 ∨ i = 15 := by omega
theorem dr_c17 {i : Nat} (h : i < 17) : i = 0 ∨ i = 1 ∨ i = 2 ∨ i = 3 ∨ i = 4 ∨ i = 5 ∨ i = 6 ∨ i = 7 ∨ i = 8 ∨ i = 9 ∨ i = 10 ∨ i = 11 ∨ i = 12 ∨ i = 13 ∨ i = 14 ∨ i = 15 ∨ i = 16 := by omega
def On (l : Array Bool) : Nat → List Prop → Prop
 | _, [] => True
 | k, p :: ps => (l.getD k false = true → p) ∧ On l (k + 1) ps
def nthP : List Prop → Nat → Prop
 | [], _ => True
 | p :: _, 0 => p
 | _ :: ps, n + 1 => nthP ps n
def AllP : List Prop → Prop
 | [] => True
 | [p] => p
 | p :: q :: ps => p ∧ AllP (q :: ps)
theorem On.none (n k : Nat) (P : List Prop) : On (Array.replicate n false) k P := by
 induction P generalizing k with
 | nil => trivial
 | cons p ps ih => exact ⟨nf, ih (k + 1)⟩
theorem On.nth {l : Array Bool} {P : List Prop} {k i : Nat} (h : On l k P) (hi : l.getD (k + i) false = true) : nthP P i := by
 induction P generalizing k i with
 | nil => trivial
 | cons p ps ih =>
  cases i with
  | zero => exact h.1 hi
  | succ i => exact ih (k := k + 1) h.2 (by rw [show k + 1 + i = k + (i + 1) by omega]; exact hi)
theorem dh {C : Nat → Prop} {l : Array Bool} {P : List Prop} (i : Nat) (h : On l 0 P) (hd : ∀ j, C j → l.getD j false = true) (hc : C i := by kernel_rfl) : nthP P i := h.nth (by rw [Nat.zero_add]; exact hd i hc)
theorem On.later {l : Array Bool} {P : List Prop} {k i : Nat} (h : On l k P) (hk : i < k) : On (l.setIfInBounds i true) k P := by
 induction P generalizing k with
 | nil => trivial
 | cons p ps ih => exact ⟨listed_keep (by omega) h.1, ih h.2 (by omega)⟩
theorem On.set {l : Array Bool} {P : List Prop} {k i : Nat} {p : Prop} (h : On l k P) (hp : p) : On (l.setIfInBounds (k + i) true) k (P.set i p) := by
 induction P generalizing k i with
 | nil => trivial
 | cons q ps ih =>
  cases i with
  | zero => exact ⟨fun _ => hp, h.2.later (by omega)⟩
  | succ i =>
   have e : k + (i + 1) = k + 1 + i := by omega
   rw [e]
   exact ⟨listed_keep (by omega) h.1, ih h.2⟩
theorem onS {l : Array Bool} {P Q : List Prop} {i : Nat} {p : Prop} (h : On l 0 P) (hp : p) (hQ : P.set i p = Q) : On (l.setIfInBounds i true) 0 Q := by
 have := h.set (i := i) hp
 rw [Nat.zero_add, hQ] at this
 exact this
theorem On.void {l : Array Bool} {P : List Prop} {k i : Nat} {p : Prop} (h : On l k P) (hn : l.getD (k + i) false = false) : On l k (P.set i p) := by
 induction P generalizing k i with
 | nil => trivial
 | cons q ps ih =>
  cases i with
  | zero => exact ⟨fun hx => absurd (hx.symm.trans hn) (by decide), h.2⟩
  | succ i => exact ⟨h.1, ih (k := k + 1) h.2 (by rw [show k + 1 + i = k + (i + 1) by omega]; exact hn)⟩
theorem onV {l : Array Bool} {P : List Prop} (i : Nat) {p : Prop} (h : On l 0 P) (hn : l.getD i false = false) : On l 0 (P.set i p) := h.void (by rw [Nat.zero_add]; exact hn)
theorem On.allP {l : Array Bool} {P : List Prop} {k n : Nat} (h : On l k P) (hall : ∀ i, i < n → l.getD i false = true) (hn : k + P.length ≤ n) : AllP P := by
 induction P generalizing k with
 | nil => trivial
 | cons p ps ih =>
  have h0 := h.1 (hall k (by simp at hn; omega))
  cases ps with
  | nil => exact h0
  | cons q qs => exact ⟨h0, ih h.2 (by simp at hn ⊢; omega)⟩
theorem onA {l : Array Bool} {P : List Prop} {n : Nat} (h : On l 0 P) (hall : ∀ i, i < n → l.getD i false = true) (hn : Nat.ble (0 + P.length) n = true := by kernel_rfl) : AllP P := h.allP hall (Nat.le_of_ble_eq_true hn)
def Wt (l : Array Bool) (L : List (Nat × Nat)) : Prop := ∀ p ∈ L, l.getD p.1 false = true → l.getD p.2 false = true
theorem Wt.none (n : Nat) (L : List (Nat × Nat)) : Wt (Array.replicate n false) L := fun _ _ h => nf h
theorem getD_still {l : Array Bool} {i j : Nat} (h : l.getD j false = true) : (l.setIfInBounds i true).getD j false = true := by
 by_cases hij : i = j
 ·subst hij
  refine getD_on ?_
  by_cases hs : i < l.size
  ·exact hs
  ·simp [Array.getD, hs] at h
 ·rw [getD_keep hij]
  exact h
theorem wtS {wt : Nat → Bool} {l : Array Bool} {L : List (Nat × Nat)} {i : Nat} (h : Wt l L) (hd : ∀ j, wt j = true → l.getD j false = true) (hc : (L.all fun p => p.1 != i || wt p.2) = true := by kernel_rfl) : Wt (l.setIfInBounds i true) L := by
 intro p hp hl
 by_cases hi : p.1 = i
 ·have := List.all_eq_true.1 hc p hp
  rw [hi] at this
  simp only [bne_self_eq_false, Bool.false_or] at this
  exact getD_still (hd _ this)
 ·rw [getD_keep (Ne.symm hi)] at hl
  exact getD_still (h p hp hl)
theorem wtF {l : Array Bool} {L : List (Nat × Nat)} {k i : Nat} (h : Wt l L) (hoff : l.getD i false = false) (hm : L.contains (k, i) = true := by decide) : l.getD k false = false := by
 cases hx : l.getD k false with
 | false => rfl
 | true => exact absurd ((h (k, i) (by simpa using hm) hx).symm.trans hoff) (by decide)
theorem oldG {l : Array Bool} {L : List (Nat × Nat)} {k i : Nat} {p : Prop} (hO : l.getD k false = false → p) (h : Wt l L) (hoff : l.getD i false = false) (hm : L.contains (k, i) = true := by decide) : p := hO (wtF h hoff hm)
theorem oldN {l : Array Bool} {k n : Nat} {p : Prop} (hs : l.size = n) (hk : Nat.ble (k + 1) n = true := by kernel_rfl) : (l.setIfInBounds k true).getD k false = false → p := fun h => absurd ((getD_on (by rw [hs]; exact Nat.le_of_ble_eq_true hk)).symm.trans h) (by decide)
theorem oldS {l : Array Bool} {i k n : Nat} {p : Prop} (hO : l.getD k false = false → p) (hs : l.size = n) (hk : Nat.ble (k + 1) n = true := by kernel_rfl) : (l.setIfInBounds i true).getD k false = false → p := by
 by_cases h : i = k
 ·subst h
  exact oldN hs hk
 ·exact listed_keepF h hO
def nthO : List Oper → Nat → Option Oper
 | [], _ => none
 | o :: _, 0 => some o
 | _ :: os, n + 1 => nthO os n
theorem nthO_get {l : List Oper} {i : Nat} {o : Oper} (h : nthO l i = some o) : l.toArray[i]? = some o := by
 induction l generalizing i with
 | nil => cases h
 | cons x xs ih =>
  cases i with
  | zero => simpa [nthO] using h
  | succ i => simpa using ih h
section
variable {P : Program} {l : List Oper} {Q : Exit → Act → World → Prop} {i : Nat} {o : Oper} {J : Act → World → Prop} {a : Act} {w : World}
theorem ow (ho : nthO l i = some o) (hw : Region.wanted o (yielded l.toArray a.tmps) = true) (h : ∀ K : Act → World → Prop, (∀ a' w', J a' w' → K a' w') → OpW P o a w K Q) : wpOp P l.toArray Q i J a w := wpOp_want (nthO_get ho) hw h
theorem oz (ho : nthO l i = some o) (hw : Region.wanted o (yielded l.toArray a.tmps) = false) (h : ∀ K : Act → World → Prop, (∀ a' w', J a' w' → K a' w') → K (a.put o.dst undef) w) : wpOp P l.toArray Q i J a w := wpOp_skip (nthO_get ho) hw h
end
theorem dE {p : Prop} (h : p := by (simp only [putAll, z1, z2]; try exact rfl)) : p := h
theorem dT {p : Prop} (h : p := by (repeat' apply And.intro) <;> first
 | exact True.intro
 | with_reducible rfl
 | with_reducible assumption
 | with_reducible exact wtS hw hd
 | with_reducible exact oldN hsz
 | with_reducible refine oldS ?_ hsz; assumption
 | exact tS2
 | exact tS1) : p := h
theorem dF {p : Prop} (h : p := by first
 | with_reducible exact HF
 | (simp only [getD_keep, ne_eq, Nat.reduceEqDiff, not_false_eq_true]; exact HF)
 | (simp only [getD_keep, HG, ne_eq, Nat.reduceEqDiff, not_false_eq_true]; exact HF)) : p := h
theorem dK {p : Prop} (h : p := by
  (apply Exists.intro; refine And.intro ?dE ?_; rotate_left; (repeat apply Exists.intro); refine And.intro rfl ?_
   case dE => exact dE
   refine And.intro dF ?_
   refine And.intro (onS hH ?_ rfl) ?_
   · exact rfl
   · exact dT)) : p := h
theorem oR {p : Prop} (h : p := by (go_simp; exact hK _ _ dK)) : p := h
theorem oQ {p : Prop} (h : p := by (refine ⟨?_⟩; go_simp; exact hK _ _ dK)) : p := h
theorem oP {p : Prop} (h : p := by (refine ow rfl rfl fun K hK => ?_; refine ⟨?_⟩; go_simp; exact hK _ _ dK)) : p := h
theorem oZ {p : Prop} (h : p := by (refine oz rfl rfl fun K hK => ?_; go_simp; exact hK _ _ dK)) : p := h
theorem oC {p : Prop} (h : p := by (clear HF; intro W HF; (try dsimp only); exact hK _ _ dK)) : p := h
theorem oU {p : Prop} (h : p := by (clear HF; intro W HF; simp only [z7, z8, List.append_assoc, List.append_nil] at HF; go_simp; exact hK _ _ dK)) : p := h
end
section
open Go.RowKit
structure Yld (P : Program) (op : Op) (a : Act) (F : List Ent) (v : Value) : Prop where
 out : ∀ {w W : World} {K : Act → World → Prop} {Q : Exit → Act → World → Prop} {dst : Option Tmp} {ty : TypeId} {pos : String} {af : Array Edge} {gd : Option (Nat × Bool)}, Fr w W F → K (a.put dst v) W → OpW P ⟨dst, op, ty, pos, af, gd⟩ a W K Q
structure Str (P : Program) (op : Op) (a : Act) (F F' : List Ent) : Prop where
 out : ∀ {w W : World} {K : Act → World → Prop} {Q : Exit → Act → World → Prop} {ty : TypeId} {pos : String} {af : Array Edge} {gd : Option (Nat × Bool)}, Fr w W F → (∀ W', Fr w W' F' → K a W') → OpW P ⟨none, op, ty, pos, af, gd⟩ a W K Q
structure Nw (P : Program) (op : Op) (a : Act) (F : List Ent) (cs : Array Value) (t : TypeId) : Prop where
 out : ∀ {w W : World} {K : Act → World → Prop} {Q : Exit → Act → World → Prop} {dst : Option Tmp} {ty : TypeId} {pos : String} {af : Array Edge} {gd : Option (Nat × Bool)}, Fr w W F → Hold (∀ b W', Fr w W' ((b, cs, t) :: F) → K (a.put dst (.pointer (some ⟨b, 0, none⟩))) W') → OpW P ⟨dst, op, ty, pos, af, gd⟩ a W K Q
section
variable {P : Program} {op : Op} {a : Act} {w W : World} {F F' A L : List Ent} {v v0 : Value} {Q : Exit → Act → World → Prop} {ops : Array Oper} {rest : List Oper} {dst : Option Tmp} {ty : TypeId} {pos : String} {af : Array Edge} {gd : Option (Nat × Bool)} {b k : Nat} {cs ds cs' : Array Value} {t T : TypeId} {x y : Operand}
theorem fY (h : Fr w W F) (hc : Region.wanted ⟨dst, op, ty, pos, af, gd⟩ (yielded ops a.tmps) = true ∧ Yld P op a F v) (hk : wpList P ops Q rest (a.put dst v) W) : wpList P ops Q (⟨dst, op, ty, pos, af, gd⟩ :: rest) a W :=
 wpList_want hc.1 fun K hK => (hc.2.out h (hK _ _ hk)).out
theorem fT (h : Fr w W F) (hc : Region.wanted ⟨none, op, ty, pos, af, gd⟩ (yielded ops a.tmps) = true ∧ Str P op a F F') (hk : ∀ W', Fr w W' F' → wpList P ops Q rest a W') : wpList P ops Q (⟨none, op, ty, pos, af, gd⟩ :: rest) a W :=
 wpList_want hc.1 fun K hK => (hc.2.out h (fun W' F' => hK _ _ (hk W' F'))).out
theorem fN (h : Fr w W F) (hc : Region.wanted ⟨dst, op, ty, pos, af, gd⟩ (yielded ops a.tmps) = true ∧ Nw P op a F cs t) (hk : Hold (∀ b W', Fr w W' ((b, cs, t) :: F) → wpList P ops Q rest (a.put dst (.pointer (some ⟨b, 0, none⟩))) W')) : wpList P ops Q (⟨dst, op, ty, pos, af, gd⟩ :: rest) a W :=
 wpList_want hc.1 fun K hK => (hc.2.out h (fun b W' F => hK _ _ (hk b W' F))).out
theorem gY {K : Act → World → Prop} (h : Fr w W F) (hy : Yld P op a F v) (hk : K (a.put dst v) W) : OpW P ⟨dst, op, ty, pos, af, gd⟩ a W K Q := hy.out h hk
theorem yL (hx : a.eval x = .pointer (some ⟨b, 0, none⟩)) (hl : Lies F A b cs t L) (hr : RowV P T cs) : Yld P (.load T x) a F (.agg cs) := ⟨fun h hk => gL h hx hl hr hk⟩
theorem yLm (hx : a.eval x = .pointer (some ⟨b, k, none⟩)) (hl : Lies F A b cs t L) (hd : (cs.toList.drop k).take ds.size = ds.toList) (hr : RowV P T ds) : Yld P (.load T x) a F (.agg ds) := ⟨fun h hk => gLm h hx hl hd hr hk⟩
theorem sS (hx : a.eval x = .pointer (some ⟨b, 0, none⟩)) (hy : a.eval y = .agg ds) (hl : Lies F A b cs t L) (hr : RowV P T ds) (hs : cs.size = ds.size) (hF : A ++ (b, ds, t) :: L = F') : Str P (.store T x y) a F F' := ⟨fun h hk => gS h hx hy hl hr hs (by rw [hF]; exact hk)⟩
end
section
variable {op : Op} {a : Act} {w W : World} {F F' A L : List Ent} {b k : Nat} {cs ds cs' : Array Value} {t T : TypeId} {x y : Operand}
theorem nA_int : Nw Tryz.prog (.alloc 29) a F (intC false 0) 29 := ⟨fun h hk => gA_int h hk⟩
theorem nX_int (hx : a.eval x = .agg cs) : Nw Tryz.prog (.box 29 x) a F cs 29 := ⟨fun h hk => gX_int h hx hk⟩
theorem nA_mag : Nw Tryz.prog (.alloc 155) a F (limA 32 0) 155 := ⟨fun h hk => gA_mag h hk⟩
theorem nX_mag (hx : a.eval x = .agg cs) : Nw Tryz.prog (.box 155 x) a F cs 155 := ⟨fun h hk => gX_mag h hx hk⟩
theorem yB_int0 : Yld Tryz.prog (.build 29 #[]) a F (.agg (intC false 0)) := ⟨fun h hk => gB_int0 hk⟩
theorem yB_mag0 : Yld Tryz.prog (.build 155 #[]) a F (.agg (limA 32 0)) := ⟨fun h hk => gB_mag0 hk⟩
theorem yB_mag1 : Yld Tryz.prog (.build 155 #[(0, .const (.int .u32 1))]) a F (.agg (limA 32 1)) := ⟨fun h hk => gB_mag1 hk⟩
theorem yB_int {n : Bool} {m : Nat} (hx : a.eval x = .bool n) (hy : a.eval y = .agg (limA 32 m)) : Yld Tryz.prog (.build 29 #[(0, x), (1, y)]) a F (.agg (intC n m)) := ⟨fun h hk => gB_int hx hy hk⟩
theorem jN0 {p : Prop} (h : p := by (first | exact nA_int | exact nX_int rfl | exact nA_mag | exact nX_mag rfl)) : p := h
theorem kN0 {p q : Prop} (h : p ∧ q := by (refine ⟨?_, ?_⟩; exact rfl; exact jN0)) : p ∧ q := h
end
section
variable {P : Program} {op : Op} {a : Act} {w W : World} {F F' : List Ent} {v : Value} {Q : Exit → Act → World → Prop} {ops : Array Oper} {rest : List Oper} {dst : Option Tmp} {ty : TypeId} {pos : String} {af : Array Edge} {gd : Option (Nat × Bool)} {cs : Array Value} {t : TypeId}
theorem aN0 (hk : Hold (∀ b W', Fr w W' ((b, cs, t) :: F) → wpList P ops Q rest (a.put dst (.pointer (some ⟨b, 0, none⟩))) W')) (h : Fr w W F := by exact F) (hc : Region.wanted ⟨dst, op, ty, pos, af, gd⟩ (yielded ops a.tmps) = true ∧ Nw P op a F cs t := by exact kN0) : wpList P ops Q (⟨dst, op, ty, pos, af, gd⟩ :: rest) a W := fN h hc hk
end
end
section
open Go.RowKit
set_option maxHeartbeats 1000000
theorem rowIntZ : RowV Tryz.prog 29 #[.bool false, .int .u32 0, .int .u32 0, .int .u32 0, .int .u32 0, .int .u32 0, .int .u32 0, .int .u32 0, .int .u32 0, .int .u32 0, .int .u32 0, .int .u32 0, .int .u32 0, .int .u32 0, .int .u32 0, .int .u32 0, .int .u32 0, .int .u32 0, .int .u32 0, .int .u32 0, .int .u32 0, .int .u32 0, .int .u32 0, .int .u32 0, .int .u32 0, .int .u32 0, .int .u32 0, .int .u32 0, .int .u32 0, .int .u32 0, .int .u32 0, .int .u32 0, .int .u32 0] := by
 have h := rowInt false 0
 rw [intZ] at h
 exact h
def canB (neg : Bool) (m : Nat) : Bool := neg && !decide (m = 0)
def addI (x : Bool) (a : Nat) (y : Bool) (b : Nat) : Bool × Nat × Int :=
 if canB x a ≠ canB y b then (if a < b then (canB (canB y b) (b - a), b - a, 0) else (canB (canB x a) (a - b), a - b, 0))
 else if a + b < bp 32 then (canB (canB x a) (a + b), a + b, 0) else (false, 0, 10)
theorem madeC {neg : Bool} {m : Nat} (hm : m < bp 32) (w : World) : Calls Tryz.prog 185 #[.bool neg, .agg (limA 32 m)] w (RetB (.agg (intC (canB neg m) m)) w) := made_any hm rfl w
theorem splitC {neg : Bool} {m : Nat} (hm : m < bp 32) (w : World) : Calls Tryz.prog 141 #[.agg (intC neg m)] w (RetB (.tuple #[.bool (canB neg m), .agg (limA 32 m)]) w) := split_any hm rfl w
set_option maxRecDepth 100000 in
theorem add_any {x : Bool} {a : Nat} {y : Bool} {b : Nat} (ha : a < bp 32) (hb : b < bp 32) {r : Bool × Nat × Int} (hr : addI x a y b = r) (w : World) : Calls Tryz.prog 187 #[.agg (intC x a), .agg (intC y b)] w (RetB (.tuple #[.agg (intC r.1 r.2.1), .int .i64 r.2.2]) w) := by
 have g3 := fun w => splitC (neg := x) ha w
 have g4 := fun w => splitC (neg := y) hb w
 unfold addI at hr
 obtain ⟨p, hp⟩ : ∃ p, canB x a = p := ⟨_, rfl⟩
 obtain ⟨q, hq⟩ : ∃ q, canB y b = q := ⟨_, rfl⟩
 rw [hp, hq] at hr
 rw [hp] at g3
 rw [hq] at g4
 have HL := Lib.hid (And.intro ha hb)
 have HR := Lib.hid hr
 have HI := Lib.hid (show BlkAt (((w.alloc (.cells (intC x a) 29)).alloc (.cells (intC y b) 29)).alloc (.cells #[.bool false, .int .u32 0, .int .u32 0, .int .u32 0, .int .u32 0, .int .u32 0, .int .u32 0, .int .u32 0, .int .u32 0, .int .u32 0, .int .u32 0, .int .u32 0, .int .u32 0, .int .u32 0, .int .u32 0, .int .u32 0, .int .u32 0, .int .u32 0, .int .u32 0, .int .u32 0, .int .u32 0, .int .u32 0, .int .u32 0, .int .u32 0, .int .u32 0, .int .u32 0, .int .u32 0, .int .u32 0, .int .u32 0, .int .u32 0, .int .u32 0, .int .u32 0, .int .u32 0] 29)) w.heap.size (intC x a) 29 from ((BlkAt.new _ _ _).al _).al _)
 have HJ := Lib.hid (show BlkAt (((w.alloc (.cells (intC x a) 29)).alloc (.cells (intC y b) 29)).alloc (.cells #[.bool false, .int .u32 0, .int .u32 0, .int .u32 0, .int .u32 0, .int .u32 0, .int .u32 0, .int .u32 0, .int .u32 0, .int .u32 0, .int .u32 0, .int .u32 0, .int .u32 0, .int .u32 0, .int .u32 0, .int .u32 0, .int .u32 0, .int .u32 0, .int .u32 0, .int .u32 0, .int .u32 0, .int .u32 0, .int .u32 0, .int .u32 0, .int .u32 0, .int .u32 0, .int .u32 0, .int .u32 0, .int .u32 0, .int .u32 0, .int .u32 0, .int .u32 0, .int .u32 0] 29)) (w.heap.size + 1) (intC y b) 29 from (BlkAt.newAt _ _ _ (by simp)).al _)
 have HZ := Lib.hid (show BlkAt (((w.alloc (.cells (intC x a) 29)).alloc (.cells (intC y b) 29)).alloc (.cells #[.bool false, .int .u32 0, .int .u32 0, .int .u32 0, .int .u32 0, .int .u32 0, .int .u32 0, .int .u32 0, .int .u32 0, .int .u32 0, .int .u32 0, .int .u32 0, .int .u32 0, .int .u32 0, .int .u32 0, .int .u32 0, .int .u32 0, .int .u32 0, .int .u32 0, .int .u32 0, .int .u32 0, .int .u32 0, .int .u32 0, .int .u32 0, .int .u32 0, .int .u32 0, .int .u32 0, .int .u32 0, .int .u32 0, .int .u32 0, .int .u32 0, .int .u32 0, .int .u32 0] 29)) (w.heap.size + 1 + 1) #[.bool false, .int .u32 0, .int .u32 0, .int .u32 0, .int .u32 0, .int .u32 0, .int .u32 0, .int .u32 0, .int .u32 0, .int .u32 0, .int .u32 0, .int .u32 0, .int .u32 0, .int .u32 0, .int .u32 0, .int .u32 0, .int .u32 0, .int .u32 0, .int .u32 0, .int .u32 0, .int .u32 0, .int .u32 0, .int .u32 0, .int .u32 0, .int .u32 0, .int .u32 0, .int .u32 0, .int .u32 0, .int .u32 0, .int .u32 0, .int .u32 0, .int .u32 0, .int .u32 0] 29 from BlkAt.newAt _ _ _ (by simp))
 have HB := Lib.hid (bal (bal (bal0 w (.cells (intC x a) 29)) (.cells (intC y b) 29)) (.cells #[.bool false, .int .u32 0, .int .u32 0, .int .u32 0, .int .u32 0, .int .u32 0, .int .u32 0, .int .u32 0, .int .u32 0, .int .u32 0, .int .u32 0, .int .u32 0, .int .u32 0, .int .u32 0, .int .u32 0, .int .u32 0, .int .u32 0, .int .u32 0, .int .u32 0, .int .u32 0, .int .u32 0, .int .u32 0, .int .u32 0, .int .u32 0, .int .u32 0, .int .u32 0, .int .u32 0, .int .u32 0, .int .u32 0, .int .u32 0, .int .u32 0, .int .u32 0, .int .u32 0] 29))
 clear hp hq ha hb hr
 go_enter Tryz.func187, Tryz.ntmps187
 go_upto_region 1 with (fail)
 generalize ((w.alloc _).alloc _).alloc _ = w0 at *
 go_wp2_with (((with_reducible refine wpl_load rfl 29 _ rfl _ ?_ HI.out (rowInt x a) ?_); exact rfl))
 refine (g3 _).mono ?_
 rintro e3 w3 ⟨rfl, hb3⟩
 have HB3 := Lib.hid (bal hb3 (.cells (limA 32 a) 155))
 have HM3 := Lib.hid (show MagAt (w3.alloc (.cells (limA 32 a) 155)) w3.heap.size a from BlkAt.new _ _ _)
 clear hb3 g3 HI
 go_wp2_with (first | ((with_reducible refine wpl_store_new rfl 155 _ _ rfl (limA 32 a) ?_ ?_ (rowMag _) ?_ ?_); exact rfl; exact rfl; exact rfl) | ((with_reducible refine wpl_load rfl 29 _ rfl _ ?_ (HJ.out.next HB3.out) (rowInt y b) ?_); exact rfl))
 refine (g4 _).mono ?_
 rintro e4 w4 ⟨rfl, hb4⟩
 have HB4 := Lib.hid (bal (bnext HB3.out hb4) (.cells (limA 32 b) 155))
 have HM4 := Lib.hid (show MagAt (w4.alloc (.cells (limA 32 b) 155)) w3.heap.size a from BlkAt.al (HM3.out.next hb4) _)
 have HN4 := Lib.hid (show MagAt (w4.alloc (.cells (limA 32 b) 155)) w4.heap.size b from BlkAt.new _ _ _)
 have HZ4 := Lib.hid (HZ.out.next HB4.out)
 have HW4 := Lib.hid (bnext HB.out HB4.out)
 clear hb4 HB3 HM3 g4 HJ HZ HB HB4
 go_upto_region 3 with (((with_reducible refine wpl_store_new rfl 155 _ _ rfl (limA 32 b) ?_ ?_ (rowMag _) ?_ ?_); exact rfl; exact rfl; exact rfl))
 generalize w4.alloc _ = w5 at *
 generalize w4.heap.size = B at *
 generalize w3.heap.size = A at *
 have hge : w.heap.size ≤ w.heap.size + 1 + 1 := by omega
 by_cases hpq : p = q
 ·subst hpq
  rw [if_neg (by simp)] at HR
  by_cases hfit : a + b < bp 32
  ·have hmod : (a + b) % bp 32 = a + b := Nat.mod_eq_of_lt hfit
   have g5 := plus_any HM4.out HN4.out HL.out.1 HL.out.2 hmod (decide_eq_true hfit)
   have g6 := fun w => madeC (neg := p) hfit w
   rw [if_pos hfit] at HR
   have hrr := HR.out
   subst hrr
   clear hmod hfit HR
   go_wp2_with fail
   refine g5.mono ?_
   rintro e6 w6 ⟨rfl, hb6⟩
   have HW6 := Lib.hid (bal (bnext HW4.out hb6) (.cells (limA 32 (a + b)) 155))
   have HZ6 := Lib.hid ((HZ4.out.next hb6).al (.cells (limA 32 (a + b)) 155))
   have HS6 := Lib.hid (BlkAt.new w6 (limA 32 (a + b)) 155)
   clear hb6 g5 HM4 HN4 HZ4 HW4
   go_wp2_with (first | ((with_reducible refine wpl_store_new rfl 155 _ _ rfl (limA 32 (a + b)) ?_ ?_ (rowMag _) ?_ ?_); exact rfl; exact rfl; exact rfl) | ((with_reducible refine wpl_load rfl 155 _ rfl _ ?_ HS6.out (rowMag _) ?_); exact rfl))
   refine (g6 _).mono ?_
   rintro e7 w7 ⟨rfl, hb7⟩
   have HZ7 := Lib.hid (HZ6.out.next hb7)
   have HRR := Lib.hid (HZ7.out.set (intC (canB p (a + b)) (a + b)))
   have HWW := Lib.hid (Below.setRow (bnext HW6.out hb7) hge (intC (canB p (a + b)) (a + b)))
   clear hb7 g6 HW6 HZ6 HS6
   go_wp2_with ((with_reducible refine wpl_store rfl 29 _ _ rfl _ (intC (canB p (a + b)) (a + b)) ?_ ?_ HZ7.out (rowInt _ _) ?_ ?_); exact rfl; exact rfl; exact (by rw [intC_size]; rfl))
   exact bodyPost_ret (res_cs rfl rfl rfl HRR.out (rowInt _ _)) rfl ⟨rfl, HWW.out⟩
  ·have hlt : decide (a + b < bp 32) = false := decide_eq_false hfit
   have g5 := plus_any HM4.out HN4.out HL.out.1 HL.out.2 rfl hlt
   obtain ⟨s, hs⟩ : ∃ s, (a + b) % bp 32 = s := ⟨_, rfl⟩
   rw [hs] at g5
   rw [if_neg hfit] at HR
   have hrr := HR.out
   subst hrr
   clear hs hlt hfit HR
   go_wp2_with fail
   refine g5.mono ?_
   rintro e6 w6 ⟨rfl, hb6⟩
   have HW6 := Lib.hid (bal (bnext HW4.out hb6) (.cells (limA 32 s) 155))
   have HZ6 := Lib.hid ((HZ4.out.next hb6).al (.cells (limA 32 s) 155))
   have HRR := Lib.hid ((HZ6.out.set #[.bool false, .int .u32 0, .int .u32 0, .int .u32 0, .int .u32 0, .int .u32 0, .int .u32 0, .int .u32 0, .int .u32 0, .int .u32 0, .int .u32 0, .int .u32 0, .int .u32 0, .int .u32 0, .int .u32 0, .int .u32 0, .int .u32 0, .int .u32 0, .int .u32 0, .int .u32 0, .int .u32 0, .int .u32 0, .int .u32 0, .int .u32 0, .int .u32 0, .int .u32 0, .int .u32 0, .int .u32 0, .int .u32 0, .int .u32 0, .int .u32 0, .int .u32 0, .int .u32 0]).is intZ.symm)
   have HWW := Lib.hid (Below.setRow HW6.out hge #[.bool false, .int .u32 0, .int .u32 0, .int .u32 0, .int .u32 0, .int .u32 0, .int .u32 0, .int .u32 0, .int .u32 0, .int .u32 0, .int .u32 0, .int .u32 0, .int .u32 0, .int .u32 0, .int .u32 0, .int .u32 0, .int .u32 0, .int .u32 0, .int .u32 0, .int .u32 0, .int .u32 0, .int .u32 0, .int .u32 0, .int .u32 0, .int .u32 0, .int .u32 0, .int .u32 0, .int .u32 0, .int .u32 0, .int .u32 0, .int .u32 0, .int .u32 0, .int .u32 0])
   clear hb6 g5 HM4 HN4 HZ4 HW4 HW6
   go_wp2_with (first | ((with_reducible refine wpl_store_new rfl 155 _ _ rfl (limA 32 s) ?_ ?_ (rowMag _) ?_ ?_); exact rfl; exact rfl; exact rfl) | ((with_reducible refine wpl_store rfl 29 _ _ rfl _ #[.bool false, .int .u32 0, .int .u32 0, .int .u32 0, .int .u32 0, .int .u32 0, .int .u32 0, .int .u32 0, .int .u32 0, .int .u32 0, .int .u32 0, .int .u32 0, .int .u32 0, .int .u32 0, .int .u32 0, .int .u32 0, .int .u32 0, .int .u32 0, .int .u32 0, .int .u32 0, .int .u32 0, .int .u32 0, .int .u32 0, .int .u32 0, .int .u32 0, .int .u32 0, .int .u32 0, .int .u32 0, .int .u32 0, .int .u32 0, .int .u32 0, .int .u32 0, .int .u32 0] ?_ ?_ HZ6.out rowIntZ ?_ ?_); exact rfl; exact rfl; exact rfl))
   exact bodyPost_ret (res_cs rfl rfl rfl HRR.out (rowInt _ _)) rfl ⟨rfl, HWW.out⟩
 ·rw [if_pos hpq] at HR
  have hbne : (p == q) = false := by simpa using hpq
  have g5 := cmp_any HM4.out HN4.out HL.out.1 HL.out.2
  by_cases hab : a < b
  ·have hc : cmpN a b = -1 := by simp [cmpN, hab]
   rw [hc] at g5
   have g6 := fun {w : World} (h1 : MagAt w B b) (h2 : MagAt w A a) => minus_any h1 h2 HL.out.2 HL.out.1 (Nat.le_of_lt hab)
   have g7 := fun w => madeC (neg := q) (m := b - a) (by have := HL.out.2; omega) w
   rw [if_pos hab] at HR
   have hrr := HR.out
   subst hrr
   clear hc hab HR hpq
   go_wp2_with fail
   refine g5.mono ?_
   rintro e6 w6 ⟨rfl, hb6⟩
   have HM6 := Lib.hid (HM4.out.next hb6)
   have HN6 := Lib.hid (HN4.out.next hb6)
   have HW6 := Lib.hid (bnext HW4.out hb6)
   have HZ6 := Lib.hid (HZ4.out.next hb6)
   clear hb6 g5 HM4 HN4 HZ4 HW4
   go_wp2_with fail
   refine (g6 HN6.out HM6.out).mono ?_
   rintro e7 w7 ⟨rfl, hb7⟩
   have HW7 := Lib.hid (bnext HW6.out hb7)
   have HZ7 := Lib.hid (HZ6.out.next hb7)
   clear hb7 g6 HM6 HN6 HZ6 HW6
   go_wp2_with fail
   refine (g7 _).mono ?_
   rintro e8 w8 ⟨rfl, hb8⟩
   have HZ8 := Lib.hid (HZ7.out.next hb8)
   have HRR := Lib.hid (HZ8.out.set (intC (canB q (b - a)) (b - a)))
   have HWW := Lib.hid (Below.setRow (bnext HW7.out hb8) hge (intC (canB q (b - a)) (b - a)))
   clear hb8 g7 HW7 HZ7
   go_wp2_with ((with_reducible refine wpl_store rfl 29 _ _ rfl _ (intC (canB q (b - a)) (b - a)) ?_ ?_ HZ8.out (rowInt _ _) ?_ ?_); exact rfl; exact rfl; exact (by rw [intC_size]; rfl))
   exact bodyPost_ret (res_cs rfl rfl rfl HRR.out (rowInt _ _)) rfl ⟨rfl, HWW.out⟩
  ·obtain ⟨c, hc⟩ : ∃ c, cmpN a b = c := ⟨_, rfl⟩
   have hc0 : ¬ (c < 0) := by
    rw [← hc]
    unfold cmpN
    rw [if_neg hab]
    split <;> omega
   rw [hc] at g5
   have g6 := fun {w : World} (h1 : MagAt w A a) (h2 : MagAt w B b) => minus_any h1 h2 HL.out.1 HL.out.2 (Nat.le_of_not_lt hab)
   have g7 := fun w => madeC (neg := p) (m := a - b) (by have := HL.out.1; omega) w
   rw [if_neg hab] at HR
   have hrr := HR.out
   subst hrr
   clear hc hab HR hpq
   go_wp2_with fail
   refine g5.mono ?_
   rintro e6 w6 ⟨rfl, hb6⟩
   have HM6 := Lib.hid (HM4.out.next hb6)
   have HN6 := Lib.hid (HN4.out.next hb6)
   have HW6 := Lib.hid (bnext HW4.out hb6)
   have HZ6 := Lib.hid (HZ4.out.next hb6)
   clear hb6 g5 HM4 HN4 HZ4 HW4
   go_wp2_with fail
   refine (g6 HM6.out HN6.out).mono ?_
   rintro e7 w7 ⟨rfl, hb7⟩
   have HW7 := Lib.hid (bnext HW6.out hb7)
   have HZ7 := Lib.hid (HZ6.out.next hb7)
   clear hb7 g6 HM6 HN6 HZ6 HW6
   go_wp2_with fail
   refine (g7 _).mono ?_
   rintro e8 w8 ⟨rfl, hb8⟩
   have HZ8 := Lib.hid (HZ7.out.next hb8)
   have HRR := Lib.hid (HZ8.out.set (intC (canB p (a - b)) (a - b)))
   have HWW := Lib.hid (Below.setRow (bnext HW7.out hb8) hge (intC (canB p (a - b)) (a - b)))
   clear hb8 g7 HW7 HZ7
   go_wp2_with ((with_reducible refine wpl_store rfl 29 _ _ rfl _ (intC (canB p (a - b)) (a - b)) ?_ ?_ HZ8.out (rowInt _ _) ?_ ?_); exact rfl; exact rfl; exact (by rw [intC_size]; rfl))
   exact bodyPost_ret (res_cs rfl rfl rfl HRR.out (rowInt _ _)) rfl ⟨rfl, HWW.out⟩
end
end Go.Proofs.YteaahhokaffmdaaGreatDoor
