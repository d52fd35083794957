/-
  Words that all texts of this seat use: what a call returns and what it leaves of memory; the last step of a row. Plain lemmas, no program in sight.
  More small words on memory: cells behind stores.
  Whole blocks, whatever their cells: laws for loads and stores of a struct or an array at once, and what becomes of blocks.
-/
import Derived.WalkKit
import Derived.ProofKit
import Derived.OpenShut
import Derived.Lib.Hide
import Derived.WalkLawsBesides
import Derived.WalkSpells
import Derived.BigQuiet
import Derived.Deep.QuietTactic
import Derived.Deep.MidRow
import Derived.Deep.WholeRow
namespace Go.Proofs.YtbfllcfjgpkpaaaGreat
section
open Go.ChangeShapes Go.WideShapes Go.ChangeAt Go.RowKit

/-- The call returns v and leaves the world as it was. -/
def RetW (v : Value) (w : World) (e : Ending) (w' : World) : Prop := e = .returned v ∧ w = w'
/-- The call returns v; what lay below block B lies as it lay. -/
def RetB (v : Value) (w : World) (e : Ending) (w' : World) : Prop := e = .returned v ∧ Below w.heap.size w w'

theorem RetW.toB {v : Value} {w : World} {e : Ending} {w' : World} (h : RetW v w e w') : RetB v w e w' := by
  obtain ⟨h1, h2⟩ := h
  subst h2
  exact ⟨h1, Below.refl _ _⟩

theorem bnext {w w1 w2 : World} (h : Below w.heap.size w w1) (k : Below w1.heap.size w1 w2) : Below w.heap.size w w2 := h.trans (k.mono h.size)
theorem bal {w w1 : World} (h : Below w.heap.size w w1) (o : Obj) : Below w.heap.size w (w1.alloc o) := h.alloc h.size o
theorem bal0 (w : World) (o : Obj) : Below w.heap.size w (w.alloc o) := (Below.refl _ _).alloc (Nat.le_refl _) o
theorem cell_al {w : World} (o : Obj) {b off : Nat} {r : Option Value} (h : b < w.heap.size) (hc : w.cell? ⟨b, off, none⟩ = r) : (w.alloc o).cell? ⟨b, off, none⟩ = r := (World.cell?_alloc_lt w o ⟨b, off, none⟩ h).trans hc
theorem frozen_al {w : World} (o : Obj) {b off : Nat} {r : Bool} (h : b < w.heap.size) (hc : w.frozen? ⟨b, off, none⟩ = r) : (w.alloc o).frozen? ⟨b, off, none⟩ = r := (World.frozen?_alloc_old w o ⟨b, off, none⟩ (by show b ≠ _; omega)).trans hc
theorem blt {w : World} {b off : Nat} {v : Value} (h : w.cell? ⟨b, off, none⟩ = some v) : b < w.heap.size := World.block_lt_of_cell? _ _ h
theorem vint {k : IntKind} {a b : Int} (h : a = b) : Value.int k a = Value.int k b := by rw [h]
theorem ret_int {k : IntKind} {a b : Int} (h : a = b) : Ending.returned (.int k a) = .returned (.int k b) := by rw [h]
theorem ret_bool {a b : Bool} (h : a = b) : Ending.returned (.bool a) = .returned (.bool b) := by rw [h]

theorem bcell {B : Nat} {W w1 : World} (hb : Below B W w1) : ∀ b o, b < B → w1.cell? ⟨b, o, none⟩ = W.cell? ⟨b, o, none⟩ :=
  fun b o h => hb.cell (p := ⟨b, o, none⟩) h
theorem bfrozen {B : Nat} {W w1 : World} (hb : Below B W w1) : ∀ b o, b < B → w1.frozen? ⟨b, o, none⟩ = W.frozen? ⟨b, o, none⟩ :=
  fun b o h => hb.frozen (p := ⟨b, o, none⟩) h

/-- A quiet callee's contract, met in a region that draws its order. -/
theorem quietW {P : Program} {f : FuncId} {args : Array Value} {w : World} {n : Nat} {v : Value}
    (h : Calls P f args (w.drewN n) (RetW v (w.drewN n))) : Calls P f args (w.drewN n) fun e w'' => e = .returned v ∧ ∃ m, w'' = w.drewN m :=
  h.mono fun _ _ ⟨he, hm⟩ => ⟨he, n, hm.symm⟩
theorem quietWA {P : Program} {f : FuncId} {args : Array Value} {w : World} {a n : Nat} {v : Value}
    (h : Calls P f args (w.drewN (a + n)) (RetW v (w.drewN (a + n)))) : Calls P f args (w.drewN (a + n)) fun e w'' => e = .returned v ∧ ∃ m, w'' = w.drewN (a + m) :=
  h.mono fun _ _ ⟨he, hm⟩ => ⟨he, n, hm.symm⟩

section
variable {H : Type} {enc : TypeId × Value → H} {P : Program}
theorem post_of_below {f : Func} {s : ChangeSpec} {apart fresh handsOn again : Bool} {W W' : World} {args : Array Value} {v : Value} {ds gs : List (DataW H)} {before pa pv : List MemPlace}
    (hW : DataW.Whole enc P f.params.toList s.vars apart W args.toList ds gs before)
    (hres : ∀ (b : Nat) (sp : Nat → Bool) (hd : Bool), DataW.TrodAll enc P W' b sp hd f.resultTypes.toList (v.resultList f.resultTypes.size) (s.fn H (ds ++ gs)).results [])
    (hargs : ∀ sp : Nat → Bool, (∀ p ∈ before, sp p.block = true) → DataW.TrodAll enc P W' 0 sp true f.params.toList args.toList (s.fn H (ds ++ gs)).args pa)
    (hvars : ∀ sp : Nat → Bool, (∀ p ∈ before, sp p.block = true) → DataW.TrodVars enc P W' sp s.vars (s.fn H (ds ++ gs)).vars pv)
    (hps : before = pa ++ pv) (hb : Below W.heap.size W W')
    (hok : ∀ (j : Nat) (t : TypeId) (r : Value), f.resultTypes[j]? = some t → (v.resultList f.resultTypes.size)[j]? = some r → Value.okWide P W' .any 0 t r) :
    s.post enc P f apart fresh handsOn again W args v W' := by
  have hlt : ∀ p ∈ before, p.block < W.heap.size := fun p hp => hW.lt p hp
  have hold : ∀ p ∈ before, (fun b => decide (b < W.heap.size)) p.block = true := fun p hp => by simpa using hlt p hp
  refine ⟨ds, gs, before, [], pa, pv, hW, hres _ _ _, hargs _ hold, hvars _ hold, World.keptBut_mono (fun p hp => ⟨hp, ?_⟩) (hb.frame (· ∈ before)), fun _ => ?_⟩
  · rw [hps, List.mem_append] at hp
    exact Or.inr hp
  · obtain ⟨_, _, _, _, _, hz, hn⟩ := hW
    refine ⟨hok, _, _, ([] ++ pa) ++ pv, ⟨[] ++ pa, pv, trodAll_append (hargs _ (fun _ _ => rfl)) (hres _ _ _), hvars _ (fun _ _ => rfl), rfl, ?_, ?_⟩, ?_⟩
    · intro b off hp
      have hin : MemPlace.cell b off ∈ before := by rw [hps]; simpa using hp
      rw [hb.frozen (hlt _ hin)]
      exact hz b off hin
    · intro ha
      have := hn ha
      rw [hps] at this
      simpa using this
    · intro p hp _
      rw [hps]
      simpa using hp
end
end
section
open Go.RowKit
theorem cell_set {w : World} {b o : Nat} {u v : Value} (hc : w.cell? ⟨b, o, none⟩ = some u) : (w.setCell ⟨b, o, none⟩ v).cell? ⟨b, o, none⟩ = some v := World.cell?_setCell_same _ _ _ hc
theorem cell_far {w : World} {b o b' o' : Nat} {v : Value} {r : Option Value} (h : b ≠ b' ∨ o ≠ o') (hc : w.cell? ⟨b', o', none⟩ = r) : (w.setCell ⟨b, o, none⟩ v).cell? ⟨b', o', none⟩ = r :=
  (World.cell?_setCell_other _ _ _ _ (by intro e; injection e with h1 h2; rcases h with h | h <;> contradiction)).trans hc
end
section
open Go.RowKit

/-- Block b holds the cells cs, of type t. -/
structure BlkAt (w : World) (b : Nat) (cs : Array Value) (t : TypeId) : Prop where
  blk : w.heap[b]? = some (.cells cs t (0, 0))
section
variable {w w' : World} {b g B : Nat} {cs : Array Value} {t : TypeId}
theorem BlkAt.lt (h : BlkAt w b cs t) : b < w.heap.size := (Array.getElem?_eq_some_iff.1 h.blk).1
theorem BlkAt.next (h : BlkAt w b cs t) (hb : Below w.heap.size w w') : BlkAt w' b cs t := ⟨(hb.block _ h.lt).trans h.blk⟩
theorem BlkAt.under (h : BlkAt w b cs t) (hb : Below B w w') (hB : b < B) : BlkAt w' b cs t := ⟨(hb.block _ hB).trans h.blk⟩
theorem BlkAt.new (w : World) (cs : Array Value) (t : TypeId) : BlkAt (w.alloc (.cells cs t)) w.heap.size cs t := ⟨heap_alloc_new w _⟩
theorem BlkAt.newAt (w : World) (cs : Array Value) (t : TypeId) (hg : w.heap.size = g) : BlkAt (w.alloc (.cells cs t)) g cs t := by subst hg; exact ⟨heap_alloc_new w _⟩
theorem BlkAt.al (h : BlkAt w b cs t) (o : Obj) : BlkAt (w.alloc o) b cs t := h.next (bal0 w o)
theorem BlkAt.drew (h : BlkAt w b cs t) : BlkAt w.drew b cs t := ⟨h.blk⟩
theorem BlkAt.drewN (h : BlkAt w b cs t) (n : Nat) : BlkAt (w.drewN n) b cs t := ⟨h.blk⟩
theorem BlkAt.cell (h : BlkAt w b cs t) {i : Nat} {v : Value} (hi : cs[i]? = some v) : w.cell? ⟨b, i, none⟩ = some v := (cell_of_row w b i cs t (0, 0) h.blk).trans hi
theorem BlkAt.fz (h : BlkAt w b cs t) (i : Nat) : w.frozen? ⟨b, i, none⟩ = false := frozen_of_row w b i cs t h.blk
theorem BlkAt.set (h : BlkAt w b cs t) (cs' : Array Value) : BlkAt (w.setRow b cs') b cs' t := ⟨setRow_heap w b cs cs' t (0, 0) h.blk⟩
theorem BlkAt.setFar (h : BlkAt w b cs t) (cs' : Array Value) (hn : b ≠ g) : BlkAt (w.setRow g cs') b cs t := ⟨(setRow_other w g b cs' hn).trans h.blk⟩
theorem BlkAt.cellSet (h : BlkAt w b cs t) (i : Nat) (v : Value) : BlkAt (w.setCell ⟨b, i, none⟩ v) b (cs.setIfInBounds i v) t := ⟨heap_setCell_same w b i cs t v h.blk⟩
theorem BlkAt.cellFar (h : BlkAt w b cs t) (i : Nat) (v : Value) (hn : b ≠ g) : BlkAt (w.setCell ⟨g, i, none⟩ v) b cs t := ⟨(heap_setCell_other w ⟨g, i, none⟩ b v hn).trans h.blk⟩
theorem BlkAt.is (h : BlkAt w b cs t) {cs' : Array Value} (e : cs = cs') : BlkAt w b cs' t := e ▸ h
theorem BlkAt.range (h : BlkAt w b cs t) : w.rangeAt b 0 cs.toList := fun j v hv => by
  rw [Nat.zero_add]
  exact h.cell (by simpa using hv)
theorem setRow_size (w : World) (g : Nat) (cs : Array Value) : (w.setRow g cs).heap.size = w.heap.size := by simp [World.setRow]
theorem Below.setRow {a w : World} {B g : Nat} (h : Below B a w) (hB : B ≤ g) (cs : Array Value) : Below B a (w.setRow g cs) :=
  ⟨h.os, h.tape, h.output, by rw [setRow_size]; exact h.size, fun k hk => (setRow_other w g k cs (by omega)).trans (h.block k hk)⟩
end

/-- The type T is a struct or an array of n cells. -/
structure RowT (P : Program) (T : TypeId) (n : Nat) : Prop where
  row : ∃ d, P.underlying T = some d ∧ (match d with | .struct _ | .array _ _ => true | _ => false) = true
  size : (P.info? T).map (·.size) = some n
/-- .. and these are cells of such a variable. -/
structure RowV (P : Program) (T : TypeId) (cs : Array Value) : Prop where
  row : RowT P T cs.size
  one : cs.all (·.oneCell') = true
section
variable {P : Program} {ops : Array Oper} {rest : List Oper} {o : Oper} {a : Act} {w : World} {Q : Exit → Act → World → Prop}
theorem wpl_load (hgd : o.guard = none) (T : TypeId) (x : Operand) (ho : o.op = .load T x) (g : Nat) (hx : a.eval x = .pointer (some ⟨g, 0, none⟩)) {t : TypeId} {cs : Array Value} (hb : BlkAt w g cs t) (hr : RowV P T cs)
    (h : wpList P ops Q rest (a.put o.dst (.agg cs)) w) : wpList P ops Q (o :: rest) a w := by
  obtain ⟨d, hu, hd⟩ := hr.row.row
  exact wpList_load_row hgd T x ho g hx t cs (0, 0) d hb.blk hu (by cases d <;> simp_all) hr.row.size h
theorem wpl_store (hgd : o.guard = none) (T : TypeId) (x y : Operand) (ho : o.op = .store T x y) (g : Nat) (cells : Array Value) (hx : a.eval x = .pointer (some ⟨g, 0, none⟩)) (hy : a.eval y = .agg cells) {t : TypeId} {old : Array Value} (hb : BlkAt w g old t) (hr : RowV P T cells) (hs : old.size = cells.size)
    (h : wpList P ops Q rest (a.put o.dst undef) (w.setRow g cells)) : wpList P ops Q (o :: rest) a w :=
  wpList_store_row hgd T x y ho g cells hx hy t old hb.blk hr.row.size hs hr.one h
/-- A store into the block that was made last. -/
theorem wpl_store_new (hgd : o.guard = none) (T : TypeId) (x y : Operand) (ho : o.op = .store T x y) {w0 : World} (cells : Array Value) {old : Array Value} {t : TypeId} (hx : a.eval x = .pointer (some ⟨w0.heap.size, 0, none⟩)) (hy : a.eval y = .agg cells) (hr : RowV P T cells) (hs : old.size = cells.size)
    (h : wpList P ops Q rest (a.put o.dst undef) (w0.alloc (.cells cells t))) : wpList P ops Q (o :: rest) a (w0.alloc (.cells old t)) := by
  refine wpl_store hgd T x y ho w0.heap.size cells hx hy (BlkAt.new w0 old t) hr hs ?_
  rw [World.setRow_alloc_new]
  exact h
theorem run_loadVar_blk {g : Nat} {T t : TypeId} {cs : Array Value} (hb : BlkAt w g cs t) (hr : RowV P T cs) : (loadVar T ⟨g, 0, none⟩).run P w = .ok (.agg cs) w := by
  obtain ⟨d, hu, hd⟩ := hr.row.row
  exact run_loadVar_row w g t T cs (0, 0) d hb.blk hu (by cases d <;> simp_all) hr.row.size
/-- A result that lies in a cell. -/
theorem res_c {fn : Func} {p : Tmp} {T t : TypeId} (h : fn.results = #[.cell p T]) {tmps : Array Value} {g : Nat} {cs : Array Value} (hp : tmps.getD p undef = .pointer (some ⟨g, 0, none⟩)) (hb : BlkAt w g cs t) (hr : RowV P T cs) :
    (results fn tmps).run P w = .ok (.agg cs) w := by
  have hp' : tmps[p]?.getD undef = .pointer (some ⟨g, 0, none⟩) := by simpa using hp
  simp [results, h, hp', asAddr, run_loadVar_blk hb hr]
theorem res_cs {fn : Func} {p q : Tmp} {T t : TypeId} (h : fn.results = #[.cell p T, .tmp q]) {tmps : Array Value} {g : Nat} {cs : Array Value} {v : Value} (hp : tmps.getD p undef = .pointer (some ⟨g, 0, none⟩)) (hq : tmps.getD q undef = v) (hb : BlkAt w g cs t) (hr : RowV P T cs) :
    (results fn tmps).run P w = .ok (.tuple #[.agg cs, v]) w := by
  have hp' : tmps[p]?.getD undef = .pointer (some ⟨g, 0, none⟩) := by simpa using hp
  have hq' : tmps[q]?.getD undef = v := by simpa using hq
  simp [results, h, hp', hq', asAddr, run_loadVar_blk hb hr]
theorem res_cc {fn : Func} {p q : Tmp} {T t U u : TypeId} (h : fn.results = #[.cell p T, .cell q U]) {tmps : Array Value} {g k : Nat} {cs ds : Array Value} (hp : tmps.getD p undef = .pointer (some ⟨g, 0, none⟩)) (hq : tmps.getD q undef = .pointer (some ⟨k, 0, none⟩)) (hb : BlkAt w g cs t) (hr : RowV P T cs) (hc : BlkAt w k ds u) (hs : RowV P U ds) :
    (results fn tmps).run P w = .ok (.tuple #[.agg cs, .agg ds]) w := by
  have hp' : tmps[p]?.getD undef = .pointer (some ⟨g, 0, none⟩) := by simpa using hp
  have hq' : tmps[q]?.getD undef = .pointer (some ⟨k, 0, none⟩) := by simpa using hq
  simp [results, h, hp', hq', asAddr, run_loadVar_blk hb hr, run_loadVar_blk hc hs]
theorem res_ccs {fn : Func} {p q r : Tmp} {T t U u : TypeId} (h : fn.results = #[.cell p T, .cell q U, .tmp r]) {tmps : Array Value} {g k : Nat} {cs ds : Array Value} {v : Value} (hp : tmps.getD p undef = .pointer (some ⟨g, 0, none⟩)) (hq : tmps.getD q undef = .pointer (some ⟨k, 0, none⟩)) (hv : tmps.getD r undef = v) (hb : BlkAt w g cs t) (hr : RowV P T cs) (hc : BlkAt w k ds u) (hs : RowV P U ds) :
    (results fn tmps).run P w = .ok (.tuple #[.agg cs, .agg ds, v]) w := by
  have hp' : tmps[p]?.getD undef = .pointer (some ⟨g, 0, none⟩) := by simpa using hp
  have hq' : tmps[q]?.getD undef = .pointer (some ⟨k, 0, none⟩) := by simpa using hq
  have hv' : tmps[r]?.getD undef = v := by simpa using hv
  simp [results, h, hp', hq', hv', asAddr, run_loadVar_blk hb hr, run_loadVar_blk hc hs]
end
end
end Go.Proofs.YtbfllcfjgpkpaaaGreat
