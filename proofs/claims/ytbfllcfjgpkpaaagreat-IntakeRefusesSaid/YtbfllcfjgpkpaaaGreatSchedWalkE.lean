/-
  The walks of schedules: the desk of a schedule at a place.
-/
import Derived.Test.YtbfllcfjgpkpaaaGreatSchedWalkA
import Derived.Deep.RegionHeld3
namespace Go.Proofs.YtbfllcfjgpkpaaaGreat
open Go.RowKit
set_option maxHeartbeats 8000000
set_option linter.unusedVariables false
/-- The boxes of a schedule and of a place. -/
structure ABx (w W : World) (s : SC) (z : ZN) (zA : Option Addr) (zc : Nat) (c : CN) (cA : Option Addr) (cc : Nat) : Prop where
  sb : W.heap[w.heap.size]? = some (.cells #[.int .i64 s.period, .int .i64 s.nth, .int .i64 s.notice, .int .i64 s.settle, .int .i64 s.cutoff] 28 (0, 0))
  pb : W.heap[w.heap.size + 1]? = some (.cells #[.string z.name, .int .i64 z.off, .slice zA z.cs.length zc, .string c.name, .bool c.w0, .bool c.w1, .bool c.w2, .bool c.w3, .bool c.w4, .bool c.w5, .bool c.w6, .slice cA c.hs.length cc] 37 (0, 0))
  za : ZAt W z zA
  ca : CAt W c cA
  below : Below w.heap.size w W
section
variable {w W W' : World} {s : SC} {z : ZN} {zA : Option Addr} {zc : Nat} {c : CN} {cA : Option Addr} {cc : Nat}
theorem ABx.next (h : ABx w W s z zA zc c cA cc) (hb : Below W.heap.size W W') : ABx w W' s z zA zc c cA cc :=
  ⟨(hb.block _ (Array.getElem?_eq_some_iff.1 h.sb).1).trans h.sb, (hb.block _ (Array.getElem?_eq_some_iff.1 h.pb).1).trans h.pb, h.za.below hb, h.ca.below hb, bnext h.below hb⟩
theorem ABx.qs (h : ABx w W s z zA zc c cA cc) : W.cell? ⟨w.heap.size, 0, none⟩ = some (.int .i64 s.period) ∧ W.cell? ⟨w.heap.size, 1, none⟩ = some (.int .i64 s.nth) ∧ W.cell? ⟨w.heap.size, 2, none⟩ = some (.int .i64 s.notice) ∧ W.cell? ⟨w.heap.size, 3, none⟩ = some (.int .i64 s.settle) ∧ W.cell? ⟨w.heap.size, 4, none⟩ = some (.int .i64 s.cutoff) :=
  ⟨Joins.cell_of_block h.sb 0, Joins.cell_of_block h.sb 1, Joins.cell_of_block h.sb 2, Joins.cell_of_block h.sb 3, Joins.cell_of_block h.sb 4⟩
theorem ABx.qp (h : ABx w W s z zA zc c cA cc) : W.cell? ⟨w.heap.size + 1, 0, none⟩ = some (.string z.name) ∧ W.cell? ⟨w.heap.size + 1, 1, none⟩ = some (.int .i64 z.off) ∧ W.cell? ⟨w.heap.size + 1, 2, none⟩ = some (.slice zA z.cs.length zc) ∧ W.cell? ⟨w.heap.size + 1, 3, none⟩ = some (.string c.name) ∧ W.cell? ⟨w.heap.size + 1, 4, none⟩ = some (.bool c.w0) ∧ W.cell? ⟨w.heap.size + 1, 5, none⟩ = some (.bool c.w1) ∧ W.cell? ⟨w.heap.size + 1, 6, none⟩ = some (.bool c.w2) ∧ W.cell? ⟨w.heap.size + 1, 7, none⟩ = some (.bool c.w3) ∧ W.cell? ⟨w.heap.size + 1, 8, none⟩ = some (.bool c.w4) ∧ W.cell? ⟨w.heap.size + 1, 9, none⟩ = some (.bool c.w5) ∧ W.cell? ⟨w.heap.size + 1, 10, none⟩ = some (.bool c.w6) ∧ W.cell? ⟨w.heap.size + 1, 11, none⟩ = some (.slice cA c.hs.length cc) :=
  ⟨Joins.cell_of_block h.pb 0, Joins.cell_of_block h.pb 1, Joins.cell_of_block h.pb 2, Joins.cell_of_block h.pb 3, Joins.cell_of_block h.pb 4, Joins.cell_of_block h.pb 5, Joins.cell_of_block h.pb 6, Joins.cell_of_block h.pb 7, Joins.cell_of_block h.pb 8, Joins.cell_of_block h.pb 9, Joins.cell_of_block h.pb 10, Joins.cell_of_block h.pb 11⟩
theorem ABx.S (h : ABx w W s z zA zc c cA cc) : (W.cell? ⟨w.heap.size, 0, none⟩ = some (.int .i64 s.period) ∧ W.cell? ⟨w.heap.size, 1, none⟩ = some (.int .i64 s.nth) ∧ W.cell? ⟨w.heap.size, 2, none⟩ = some (.int .i64 s.notice) ∧ W.cell? ⟨w.heap.size, 3, none⟩ = some (.int .i64 s.settle) ∧ W.cell? ⟨w.heap.size, 4, none⟩ = some (.int .i64 s.cutoff)) ∧ (W.cell? ⟨w.heap.size + 1, 0, none⟩ = some (.string z.name) ∧ W.cell? ⟨w.heap.size + 1, 1, none⟩ = some (.int .i64 z.off) ∧ W.cell? ⟨w.heap.size + 1, 2, none⟩ = some (.slice zA z.cs.length zc) ∧ W.cell? ⟨w.heap.size + 1, 3, none⟩ = some (.string c.name) ∧ W.cell? ⟨w.heap.size + 1, 4, none⟩ = some (.bool c.w0) ∧ W.cell? ⟨w.heap.size + 1, 5, none⟩ = some (.bool c.w1) ∧ W.cell? ⟨w.heap.size + 1, 6, none⟩ = some (.bool c.w2) ∧ W.cell? ⟨w.heap.size + 1, 7, none⟩ = some (.bool c.w3) ∧ W.cell? ⟨w.heap.size + 1, 8, none⟩ = some (.bool c.w4) ∧ W.cell? ⟨w.heap.size + 1, 9, none⟩ = some (.bool c.w5) ∧ W.cell? ⟨w.heap.size + 1, 10, none⟩ = some (.bool c.w6) ∧ W.cell? ⟨w.heap.size + 1, 11, none⟩ = some (.slice cA c.hs.length cc)) ∧ ABx w W s z zA zc c cA cc := ⟨h.qs, h.qp, h⟩
theorem ABx.new (hz : ZAt w z zA) (hc : CAt w c cA) : ABx w ((w.alloc (.cells #[.int .i64 s.period, .int .i64 s.nth, .int .i64 s.notice, .int .i64 s.settle, .int .i64 s.cutoff] 28)).alloc (.cells #[.string z.name, .int .i64 z.off, .slice zA z.cs.length zc, .string c.name, .bool c.w0, .bool c.w1, .bool c.w2, .bool c.w3, .bool c.w4, .bool c.w5, .bool c.w6, .slice cA c.hs.length cc] 37)) s z zA zc c cA cc :=
  ⟨heap_alD _ (by simp) (heap_alloc_new w _), heap_newD _ (by simp), (hz.below (bal0 _ _)).below (bal0 _ _), (hc.below (bal0 _ _)).below (bal0 _ _), bal (bal0 _ _) _⟩
theorem ABx.far (h : ABx w W s z zA zc c cA cc) (R : Nat) (l : List (Nat × Value)) (hR : w.heap.size + 1 < R) (hz : ∀ ad, zA = some ad → ad.block ≠ R) (hc : ∀ ad, cA = some ad → ad.block ≠ R) : ABx w (setL W R l) s z zA zc c cA cc :=
  ⟨(setL_far l W R _ (by omega)).trans h.sb, (setL_far l W R _ (by omega)).trans h.pb,
    ⟨h.za.nm, h.za.ln, fun k x hx => by
      obtain ⟨b, o, hA, hlt, h1, h2⟩ := h.za.cells k x hx
      have e := setL_far l W R b (hz _ hA)
      exact ⟨b, o, hA, by rw [setL_size]; exact hlt, (World.cell?_of_block (w := W) e).trans h1, (World.cell?_of_block (w := W) e).trans h2⟩⟩,
    ⟨h.ca.nm, h.ca.ints.1, fun k x hx => by
      obtain ⟨b, o, hA, hlt, h1⟩ := h.ca.ints.2 k x hx
      have e := setL_far l W R b (hc _ hA)
      exact ⟨b, o, hA, by rw [setL_size]; exact hlt, (World.cell?_of_block (w := W) e).trans h1⟩⟩,
    setL_below l R h.below (by omega)⟩
end
/-- Stores into all cells of a desk's block. -/
theorem set17 (W : World) (R : Nat) (t : TypeId) (a0 a1 a2 a3 a4 a5 a6 a7 a8 a9 a10 a11 a12 a13 a14 a15 a16 x0 x1 x2 x3 x4 x5 x6 x7 x8 x9 x10 x11 x12 x13 x14 x15 x16 : Value) (h : W.heap[R]? = some (.cells #[a0, a1, a2, a3, a4, a5, a6, a7, a8, a9, a10, a11, a12, a13, a14, a15, a16] t (0, 0))) :
    (setL W R [(0, x0), (1, x1), (2, x2), (3, x3), (4, x4), (5, x5), (6, x6), (7, x7), (8, x8), (9, x9), (10, x10), (11, x11), (12, x12), (13, x13), (14, x14), (15, x15), (16, x16)]).heap[R]? = some (.cells #[x0, x1, x2, x3, x4, x5, x6, x7, x8, x9, x10, x11, x12, x13, x14, x15, x16] t (0, 0)) := by
  rw [setL_at _ _ _ _ _ _ h]
  simp only [List.foldl, List.setIfInBounds_toArray, List.set_cons_zero, List.set_cons_succ]
/-- The result cell of a desk. -/
structure DRes (W : World) (R : Nat) (cs : Array Value) : Prop where
  blk : W.heap[R]? = some (.cells cs 147 (0, 0))
theorem DRes.next {W W' : World} {R : Nat} {cs : Array Value} (h : DRes W R cs) (hb : Below W.heap.size W W') : DRes W' R cs := ⟨(hb.block _ (Array.getElem?_eq_some_iff.1 h.blk).1).trans h.blk⟩
theorem DRes.q0 {W : World} {R : Nat} (h : DRes W R #[.int .i64 0, .int .i64 0, .int .i64 0, .int .i64 0, .int .i64 0, .nilIface, .string ⟨#[]⟩, .int .i64 0, .slice none 0 0, .bool false, .bool false, .bool false, .bool false, .bool false, .bool false, .bool false, .map none]) : W.cell? ⟨R, 0, none⟩ = some (.int .i64 0) ∧ W.cell? ⟨R, 1, none⟩ = some (.int .i64 0) ∧ W.cell? ⟨R, 2, none⟩ = some (.int .i64 0) ∧ W.cell? ⟨R, 3, none⟩ = some (.int .i64 0) ∧ W.cell? ⟨R, 4, none⟩ = some (.int .i64 0) ∧ W.cell? ⟨R, 5, none⟩ = some (.nilIface) ∧ W.cell? ⟨R, 6, none⟩ = some (.string ⟨#[]⟩) ∧ W.cell? ⟨R, 7, none⟩ = some (.int .i64 0) ∧ W.cell? ⟨R, 8, none⟩ = some (.slice none 0 0) ∧ W.cell? ⟨R, 9, none⟩ = some (.bool false) ∧ W.cell? ⟨R, 10, none⟩ = some (.bool false) ∧ W.cell? ⟨R, 11, none⟩ = some (.bool false) ∧ W.cell? ⟨R, 12, none⟩ = some (.bool false) ∧ W.cell? ⟨R, 13, none⟩ = some (.bool false) ∧ W.cell? ⟨R, 14, none⟩ = some (.bool false) ∧ W.cell? ⟨R, 15, none⟩ = some (.bool false) ∧ W.cell? ⟨R, 16, none⟩ = some (.map none) :=
  ⟨Joins.cell_of_block h.blk 0, Joins.cell_of_block h.blk 1, Joins.cell_of_block h.blk 2, Joins.cell_of_block h.blk 3, Joins.cell_of_block h.blk 4, Joins.cell_of_block h.blk 5, Joins.cell_of_block h.blk 6, Joins.cell_of_block h.blk 7, Joins.cell_of_block h.blk 8, Joins.cell_of_block h.blk 9, Joins.cell_of_block h.blk 10, Joins.cell_of_block h.blk 11, Joins.cell_of_block h.blk 12, Joins.cell_of_block h.blk 13, Joins.cell_of_block h.blk 14, Joins.cell_of_block h.blk 15, Joins.cell_of_block h.blk 16⟩
theorem DRes.fz {W : World} {R : Nat} {cs : Array Value} (h : DRes W R cs) (i : Nat) : W.frozen? ⟨R, i, none⟩ = false := by simp [World.frozen?, h.blk]
theorem DRes.q {W : World} {R : Nat} {s : SC} {z : ZN} {zA : Option Addr} {zc : Nat} {c : CN} {b : Nat} (h : DRes W R #[.int .i64 s.period, .int .i64 s.nth, .int .i64 s.notice, .int .i64 s.settle, .int .i64 s.cutoff, .iface (rT s.period) (.agg #[.int .i64 s.nth]), .string z.name, .int .i64 z.off, .slice zA z.cs.length zc, .bool c.w0, .bool c.w1, .bool c.w2, .bool c.w3, .bool c.w4, .bool c.w5, .bool c.w6, .map (some b)]) : W.cell? ⟨R, 0, none⟩ = some (.int .i64 s.period) ∧ W.cell? ⟨R, 1, none⟩ = some (.int .i64 s.nth) ∧ W.cell? ⟨R, 2, none⟩ = some (.int .i64 s.notice) ∧ W.cell? ⟨R, 3, none⟩ = some (.int .i64 s.settle) ∧ W.cell? ⟨R, 4, none⟩ = some (.int .i64 s.cutoff) ∧ W.cell? ⟨R, 5, none⟩ = some (.iface (rT s.period) (.agg #[.int .i64 s.nth])) ∧ W.cell? ⟨R, 6, none⟩ = some (.string z.name) ∧ W.cell? ⟨R, 7, none⟩ = some (.int .i64 z.off) ∧ W.cell? ⟨R, 8, none⟩ = some (.slice zA z.cs.length zc) ∧ W.cell? ⟨R, 9, none⟩ = some (.bool c.w0) ∧ W.cell? ⟨R, 10, none⟩ = some (.bool c.w1) ∧ W.cell? ⟨R, 11, none⟩ = some (.bool c.w2) ∧ W.cell? ⟨R, 12, none⟩ = some (.bool c.w3) ∧ W.cell? ⟨R, 13, none⟩ = some (.bool c.w4) ∧ W.cell? ⟨R, 14, none⟩ = some (.bool c.w5) ∧ W.cell? ⟨R, 15, none⟩ = some (.bool c.w6) ∧ W.cell? ⟨R, 16, none⟩ = some (.map (some b)) :=
  ⟨Joins.cell_of_block h.blk 0, Joins.cell_of_block h.blk 1, Joins.cell_of_block h.blk 2, Joins.cell_of_block h.blk 3, Joins.cell_of_block h.blk 4, Joins.cell_of_block h.blk 5, Joins.cell_of_block h.blk 6, Joins.cell_of_block h.blk 7, Joins.cell_of_block h.blk 8, Joins.cell_of_block h.blk 9, Joins.cell_of_block h.blk 10, Joins.cell_of_block h.blk 11, Joins.cell_of_block h.blk 12, Joins.cell_of_block h.blk 13, Joins.cell_of_block h.blk 14, Joins.cell_of_block h.blk 15, Joins.cell_of_block h.blk 16⟩
set_option maxRecDepth 100000 in
theorem at_err0 {w : World} {s : SC} {z : ZN} {zA : Option Addr} {c : CN} {cA : Option Addr} {e1 e2 e3 : Int} (zc cc : Nat) (hz : ZAt w z zA) (hc : CAt w c cA) (h1 : s.err = e1) (h2 : z.err = e2) (h3 : c.err = e3) (g1 : (e1 != 0) = true) :
    Calls Tryz.prog 113 #[.agg #[.int .i64 s.period, .int .i64 s.nth, .int .i64 s.notice, .int .i64 s.settle, .int .i64 s.cutoff], .agg #[.string z.name, .int .i64 z.off, .slice zA z.cs.length zc, .string c.name, .bool c.w0, .bool c.w1, .bool c.w2, .bool c.w3, .bool c.w4, .bool c.w5, .bool c.w6, .slice cA c.hs.length cc]] w (RetB (.tuple #[.agg #[.int .i64 0, .int .i64 0, .int .i64 0, .int .i64 0, .int .i64 0, .nilIface, .string ⟨#[]⟩, .int .i64 0, .slice none 0 0, .bool false, .bool false, .bool false, .bool false, .bool false, .bool false, .bool false, .map none], .int .i64 e1]) w) := by
  have hA0 := Lib.hid (And.intro (((ABx.new (s := s) (zc := zc) (cc := cc) hz hc).next (bal0 _ (.cells #[.int .i64 0, .int .i64 0, .int .i64 0, .int .i64 0, .int .i64 0, .nilIface, .string ⟨#[]⟩, .int .i64 0, .slice none 0 0, .bool false, .bool false, .bool false, .bool false, .bool false, .bool false, .bool false, .map none] 147))).next (Below.refl _ _).drew) (DRes.next (R := w.heap.size + 1 + 1) (cs := #[.int .i64 0, .int .i64 0, .int .i64 0, .int .i64 0, .int .i64 0, .nilIface, .string ⟨#[]⟩, .int .i64 0, .slice none 0 0, .bool false, .bool false, .bool false, .bool false, .bool false, .bool false, .bool false, .map none]) ⟨heap_newD (w := (w.alloc (.cells #[.int .i64 s.period, .int .i64 s.nth, .int .i64 s.notice, .int .i64 s.settle, .int .i64 s.cutoff] 28)).alloc (.cells #[.string z.name, .int .i64 z.off, .slice zA z.cs.length zc, .string c.name, .bool c.w0, .bool c.w1, .bool c.w2, .bool c.w3, .bool c.w4, .bool c.w5, .bool c.w6, .slice cA c.hs.length cc] 37)) _ (by simp)⟩ (Below.refl _ _).drew))
  have HE1 := Lib.hid h1
  have HE2 := Lib.hid h2
  have HE3 := Lib.hid h3
  clear h1 h2 h3 hz hc
  go_enter Tryz.func113, Tryz.ntmps113
  go_wp2_with fail
  go_region_held3 (fun W => (W.cell? ⟨w.heap.size, 0, none⟩ = some (.int .i64 s.period) ∧ W.cell? ⟨w.heap.size, 1, none⟩ = some (.int .i64 s.nth) ∧ W.cell? ⟨w.heap.size, 2, none⟩ = some (.int .i64 s.notice) ∧ W.cell? ⟨w.heap.size, 3, none⟩ = some (.int .i64 s.settle) ∧ W.cell? ⟨w.heap.size, 4, none⟩ = some (.int .i64 s.cutoff)) ∧ (W.cell? ⟨w.heap.size + 1, 0, none⟩ = some (.string z.name) ∧ W.cell? ⟨w.heap.size + 1, 1, none⟩ = some (.int .i64 z.off) ∧ W.cell? ⟨w.heap.size + 1, 2, none⟩ = some (.slice zA z.cs.length zc) ∧ W.cell? ⟨w.heap.size + 1, 3, none⟩ = some (.string c.name) ∧ W.cell? ⟨w.heap.size + 1, 4, none⟩ = some (.bool c.w0) ∧ W.cell? ⟨w.heap.size + 1, 5, none⟩ = some (.bool c.w1) ∧ W.cell? ⟨w.heap.size + 1, 6, none⟩ = some (.bool c.w2) ∧ W.cell? ⟨w.heap.size + 1, 7, none⟩ = some (.bool c.w3) ∧ W.cell? ⟨w.heap.size + 1, 8, none⟩ = some (.bool c.w4) ∧ W.cell? ⟨w.heap.size + 1, 9, none⟩ = some (.bool c.w5) ∧ W.cell? ⟨w.heap.size + 1, 10, none⟩ = some (.bool c.w6) ∧ W.cell? ⟨w.heap.size + 1, 11, none⟩ = some (.slice cA c.hs.length cc)) ∧ ABx w W s z zA zc c cA cc ∧ DRes W (w.heap.size + 1 + 1) #[.int .i64 0, .int .i64 0, .int .i64 0, .int .i64 0, .int .i64 0, .nilIface, .string ⟨#[]⟩, .int .i64 0, .slice none 0 0, .bool false, .bool false, .bool false, .bool false, .bool false, .bool false, .bool false, .map none])
    ((first
      | (with_reducible exact ⟨hA0.out.1.qs, hA0.out.1.qp, hA0.out⟩)
      | (with_reducible exact ⟨hA1.out.1.qs, hA1.out.1.qp, hA1.out⟩)
      | (with_reducible exact ⟨hA2.out.1.qs, hA2.out.1.qp, hA2.out⟩)
      | (with_reducible exact ⟨hA3.out.1.qs, hA3.out.1.qp, hA3.out⟩)
      | (with_reducible exact ⟨hA4.out.1.qs, hA4.out.1.qp, hA4.out⟩)
      | (exact ⟨(hA3.out.1.next (bal0 _ _)).qs, (hA3.out.1.next (bal0 _ _)).qp, hA3.out.1.next (bal0 _ _), hA3.out.2.next (bal0 _ _)⟩)))
    (first
      | (go_at_call 44; refine (scheck_is HE1.out _).mono ?_; rintro e w1 ⟨rfl, hb1⟩; have hA1 := Lib.hid (And.intro (hA0.out.1.next hb1) (hA0.out.2.next hb1)))
      | (go_at_call 42; refine (zcheck_is HE2.out zA zc _ hA1.out.1.za).mono ?_; rintro e w2 ⟨rfl, hb2⟩; have hA2 := Lib.hid (And.intro (hA1.out.1.next hb2) (hA1.out.2.next hb2)))
      | (go_at_call 43; refine (ccheck_is HE3.out cA cc _ hA2.out.1.ca).mono ?_; rintro e w3 ⟨rfl, hb3⟩; have hA3 := Lib.hid (And.intro (hA2.out.1.next hb3) (hA2.out.2.next hb3))))
  have hA4 := Lib.hid (And.intro (hA3.out.1.next (bal0 _ (.cells #[.int .i64 e1, .int .i64 e2, .int .i64 e3] 39))) (hA3.out.2.next (bal0 _ (.cells #[.int .i64 e1, .int .i64 e2, .int .i64 e3] 39))))
  clear hA0 hA1 hA2 hA3 hb1 hb2 hb3 HE1 HE2 HE3
  have u0 : (w3.alloc (.cells #[.int .i64 e1, .int .i64 e2, .int .i64 e3] 39)).cell? ⟨w3.heap.size, 0, none⟩ = some (.int .i64 e1) := by rw [World.cell?_alloc_new]; rfl
  have u1 : (w3.alloc (.cells #[.int .i64 e1, .int .i64 e2, .int .i64 e3] 39)).cell? ⟨w3.heap.size, 1, none⟩ = some (.int .i64 e2) := by rw [World.cell?_alloc_new]; rfl
  have u2 : (w3.alloc (.cells #[.int .i64 e1, .int .i64 e2, .int .i64 e3] 39)).cell? ⟨w3.heap.size, 2, none⟩ = some (.int .i64 e3) := by rw [World.cell?_alloc_new]; rfl
  try clear hHeld
  generalize World.alloc w3 _ = w4 at *
  go_wp2_with fail
  go_loopw [18] (fun iv wr => ∃ k : Nat, k ≤ 0 ∧ iv = .int .i64 k ∧ wr = w4) (fun iv _ => 1 - (intOf iv).toNat)
  case atStart => exact ⟨0, by omega, rfl, rfl⟩
  case round =>
    obtain ⟨k, hk, rfl, rfl⟩ := hrel
    have hk2 : k = 0 := by omega
    clear hk
    subst hk2
    obtain ⟨r00, r01, r02, r03, r04, r05, r06, r07, r08, r09, r10, r11, r12, r13, r14, r15, r16⟩ := hA4.out.2.q0
    have rf := hA4.out.2.fz
    go_wp2_with fail
    have s1 := set17 wr (w.heap.size + 1 + 1) 147 _ _ _ _ _ _ _ _ _ _ _ _ _ _ _ _ _ (.int .i64 0) (.int .i64 0) (.int .i64 0) (.int .i64 0) (.int .i64 0) .nilIface (.string ⟨#[]⟩) (.int .i64 0) (.slice none 0 0) (.bool false) (.bool false) (.bool false) (.bool false) (.bool false) (.bool false) (.bool false) (.map none) hA4.out.2.blk
    have s2 := setL_below [(0, .int .i64 0), (1, .int .i64 0), (2, .int .i64 0), (3, .int .i64 0), (4, .int .i64 0), (5, .nilIface), (6, .string ⟨#[]⟩), (7, .int .i64 0), (8, .slice none 0 0), (9, .bool false), (10, .bool false), (11, .bool false), (12, .bool false), (13, .bool false), (14, .bool false), (15, .bool false), (16, .map none)] (w.heap.size + 1 + 1) hA4.out.1.below (by omega)
    clear r00 r01 r02 r03 r04 r05 r06 r07 r08 r09 r10 r11 r12 r13 r14 r15 r16 rf
    refine bodyPost_ret (v := .tuple #[.agg #[.int .i64 0, .int .i64 0, .int .i64 0, .int .i64 0, .int .i64 0, .nilIface, .string ⟨#[]⟩, .int .i64 0, .slice none 0 0, .bool false, .bool false, .bool false, .bool false, .bool false, .bool false, .bool false, .map none], .int .i64 e1]) ?_ rfl ⟨rfl, s2⟩
    show (results Tryz.f113 _).run Tryz.prog (setL wr (w.heap.size + 1 + 1) [(0, .int .i64 0), (1, .int .i64 0), (2, .int .i64 0), (3, .int .i64 0), (4, .int .i64 0), (5, .nilIface), (6, .string ⟨#[]⟩), (7, .int .i64 0), (8, .slice none 0 0), (9, .bool false), (10, .bool false), (11, .bool false), (12, .bool false), (13, .bool false), (14, .bool false), (15, .bool false), (16, .map none)]) = .ok (.tuple #[.agg #[.int .i64 0, .int .i64 0, .int .i64 0, .int .i64 0, .int .i64 0, .nilIface, .string ⟨#[]⟩, .int .i64 0, .slice none 0 0, .bool false, .bool false, .bool false, .bool false, .bool false, .bool false, .bool false, .map none], .int .i64 e1]) (setL wr (w.heap.size + 1 + 1) [(0, .int .i64 0), (1, .int .i64 0), (2, .int .i64 0), (3, .int .i64 0), (4, .int .i64 0), (5, .nilIface), (6, .string ⟨#[]⟩), (7, .int .i64 0), (8, .slice none 0 0), (9, .bool false), (10, .bool false), (11, .bool false), (12, .bool false), (13, .bool false), (14, .bool false), (15, .bool false), (16, .map none)])
    have hq := DRes.q0 ⟨s1⟩
    obtain ⟨r00, r01, r02, r03, r04, r05, r06, r07, r08, r09, r10, r11, r12, r13, r14, r15, r16⟩ := hq
    clear s1 s2
    generalize setL wr (w.heap.size + 1 + 1) _ = W at *
    simp [results, Tryz.f113, go_sem, r00, r01, r02, r03, r04, r05, r06, r07, r08, r09, r10, r11, r12, r13, r14, r15, r16]
set_option maxRecDepth 100000 in
theorem at_err1 {w : World} {s : SC} {z : ZN} {zA : Option Addr} {c : CN} {cA : Option Addr} {e1 e2 e3 : Int} (zc cc : Nat) (hz : ZAt w z zA) (hc : CAt w c cA) (h1 : s.err = e1) (h2 : z.err = e2) (h3 : c.err = e3) (g1 : (e1 != 0) = false) (g2 : (e2 != 0) = true) :
    Calls Tryz.prog 113 #[.agg #[.int .i64 s.period, .int .i64 s.nth, .int .i64 s.notice, .int .i64 s.settle, .int .i64 s.cutoff], .agg #[.string z.name, .int .i64 z.off, .slice zA z.cs.length zc, .string c.name, .bool c.w0, .bool c.w1, .bool c.w2, .bool c.w3, .bool c.w4, .bool c.w5, .bool c.w6, .slice cA c.hs.length cc]] w (RetB (.tuple #[.agg #[.int .i64 0, .int .i64 0, .int .i64 0, .int .i64 0, .int .i64 0, .nilIface, .string ⟨#[]⟩, .int .i64 0, .slice none 0 0, .bool false, .bool false, .bool false, .bool false, .bool false, .bool false, .bool false, .map none], .int .i64 e2]) w) := by
  have hA0 := Lib.hid (And.intro (((ABx.new (s := s) (zc := zc) (cc := cc) hz hc).next (bal0 _ (.cells #[.int .i64 0, .int .i64 0, .int .i64 0, .int .i64 0, .int .i64 0, .nilIface, .string ⟨#[]⟩, .int .i64 0, .slice none 0 0, .bool false, .bool false, .bool false, .bool false, .bool false, .bool false, .bool false, .map none] 147))).next (Below.refl _ _).drew) (DRes.next (R := w.heap.size + 1 + 1) (cs := #[.int .i64 0, .int .i64 0, .int .i64 0, .int .i64 0, .int .i64 0, .nilIface, .string ⟨#[]⟩, .int .i64 0, .slice none 0 0, .bool false, .bool false, .bool false, .bool false, .bool false, .bool false, .bool false, .map none]) ⟨heap_newD (w := (w.alloc (.cells #[.int .i64 s.period, .int .i64 s.nth, .int .i64 s.notice, .int .i64 s.settle, .int .i64 s.cutoff] 28)).alloc (.cells #[.string z.name, .int .i64 z.off, .slice zA z.cs.length zc, .string c.name, .bool c.w0, .bool c.w1, .bool c.w2, .bool c.w3, .bool c.w4, .bool c.w5, .bool c.w6, .slice cA c.hs.length cc] 37)) _ (by simp)⟩ (Below.refl _ _).drew))
  have HE1 := Lib.hid h1
  have HE2 := Lib.hid h2
  have HE3 := Lib.hid h3
  clear h1 h2 h3 hz hc
  go_enter Tryz.func113, Tryz.ntmps113
  go_wp2_with fail
  go_region_held3 (fun W => (W.cell? ⟨w.heap.size, 0, none⟩ = some (.int .i64 s.period) ∧ W.cell? ⟨w.heap.size, 1, none⟩ = some (.int .i64 s.nth) ∧ W.cell? ⟨w.heap.size, 2, none⟩ = some (.int .i64 s.notice) ∧ W.cell? ⟨w.heap.size, 3, none⟩ = some (.int .i64 s.settle) ∧ W.cell? ⟨w.heap.size, 4, none⟩ = some (.int .i64 s.cutoff)) ∧ (W.cell? ⟨w.heap.size + 1, 0, none⟩ = some (.string z.name) ∧ W.cell? ⟨w.heap.size + 1, 1, none⟩ = some (.int .i64 z.off) ∧ W.cell? ⟨w.heap.size + 1, 2, none⟩ = some (.slice zA z.cs.length zc) ∧ W.cell? ⟨w.heap.size + 1, 3, none⟩ = some (.string c.name) ∧ W.cell? ⟨w.heap.size + 1, 4, none⟩ = some (.bool c.w0) ∧ W.cell? ⟨w.heap.size + 1, 5, none⟩ = some (.bool c.w1) ∧ W.cell? ⟨w.heap.size + 1, 6, none⟩ = some (.bool c.w2) ∧ W.cell? ⟨w.heap.size + 1, 7, none⟩ = some (.bool c.w3) ∧ W.cell? ⟨w.heap.size + 1, 8, none⟩ = some (.bool c.w4) ∧ W.cell? ⟨w.heap.size + 1, 9, none⟩ = some (.bool c.w5) ∧ W.cell? ⟨w.heap.size + 1, 10, none⟩ = some (.bool c.w6) ∧ W.cell? ⟨w.heap.size + 1, 11, none⟩ = some (.slice cA c.hs.length cc)) ∧ ABx w W s z zA zc c cA cc ∧ DRes W (w.heap.size + 1 + 1) #[.int .i64 0, .int .i64 0, .int .i64 0, .int .i64 0, .int .i64 0, .nilIface, .string ⟨#[]⟩, .int .i64 0, .slice none 0 0, .bool false, .bool false, .bool false, .bool false, .bool false, .bool false, .bool false, .map none])
    ((first
      | (with_reducible exact ⟨hA0.out.1.qs, hA0.out.1.qp, hA0.out⟩)
      | (with_reducible exact ⟨hA1.out.1.qs, hA1.out.1.qp, hA1.out⟩)
      | (with_reducible exact ⟨hA2.out.1.qs, hA2.out.1.qp, hA2.out⟩)
      | (with_reducible exact ⟨hA3.out.1.qs, hA3.out.1.qp, hA3.out⟩)
      | (with_reducible exact ⟨hA4.out.1.qs, hA4.out.1.qp, hA4.out⟩)
      | (exact ⟨(hA3.out.1.next (bal0 _ _)).qs, (hA3.out.1.next (bal0 _ _)).qp, hA3.out.1.next (bal0 _ _), hA3.out.2.next (bal0 _ _)⟩)))
    (first
      | (go_at_call 44; refine (scheck_is HE1.out _).mono ?_; rintro e w1 ⟨rfl, hb1⟩; have hA1 := Lib.hid (And.intro (hA0.out.1.next hb1) (hA0.out.2.next hb1)))
      | (go_at_call 42; refine (zcheck_is HE2.out zA zc _ hA1.out.1.za).mono ?_; rintro e w2 ⟨rfl, hb2⟩; have hA2 := Lib.hid (And.intro (hA1.out.1.next hb2) (hA1.out.2.next hb2)))
      | (go_at_call 43; refine (ccheck_is HE3.out cA cc _ hA2.out.1.ca).mono ?_; rintro e w3 ⟨rfl, hb3⟩; have hA3 := Lib.hid (And.intro (hA2.out.1.next hb3) (hA2.out.2.next hb3))))
  have hA4 := Lib.hid (And.intro (hA3.out.1.next (bal0 _ (.cells #[.int .i64 e1, .int .i64 e2, .int .i64 e3] 39))) (hA3.out.2.next (bal0 _ (.cells #[.int .i64 e1, .int .i64 e2, .int .i64 e3] 39))))
  clear hA0 hA1 hA2 hA3 hb1 hb2 hb3 HE1 HE2 HE3
  have u0 : (w3.alloc (.cells #[.int .i64 e1, .int .i64 e2, .int .i64 e3] 39)).cell? ⟨w3.heap.size, 0, none⟩ = some (.int .i64 e1) := by rw [World.cell?_alloc_new]; rfl
  have u1 : (w3.alloc (.cells #[.int .i64 e1, .int .i64 e2, .int .i64 e3] 39)).cell? ⟨w3.heap.size, 1, none⟩ = some (.int .i64 e2) := by rw [World.cell?_alloc_new]; rfl
  have u2 : (w3.alloc (.cells #[.int .i64 e1, .int .i64 e2, .int .i64 e3] 39)).cell? ⟨w3.heap.size, 2, none⟩ = some (.int .i64 e3) := by rw [World.cell?_alloc_new]; rfl
  try clear hHeld
  generalize World.alloc w3 _ = w4 at *
  go_wp2_with fail
  go_loopw [18] (fun iv wr => ∃ k : Nat, k ≤ 1 ∧ iv = .int .i64 k ∧ wr = w4) (fun iv _ => 2 - (intOf iv).toNat)
  case atStart => exact ⟨0, by omega, rfl, rfl⟩
  case round =>
    obtain ⟨k, hk, rfl, rfl⟩ := hrel
    have hk2 : k = 0 ∨ k = 1 := by omega
    clear hk
    rcases hk2 with rfl | rfl
    · go_wp2_with fail
      go_roundw
      case rel => exact ⟨1, by omega, rfl, by first | rfl | trivial⟩
      case measure => simp [intOf]
    · obtain ⟨r00, r01, r02, r03, r04, r05, r06, r07, r08, r09, r10, r11, r12, r13, r14, r15, r16⟩ := hA4.out.2.q0
      have rf := hA4.out.2.fz
      go_wp2_with fail
      have s1 := set17 wr (w.heap.size + 1 + 1) 147 _ _ _ _ _ _ _ _ _ _ _ _ _ _ _ _ _ (.int .i64 0) (.int .i64 0) (.int .i64 0) (.int .i64 0) (.int .i64 0) .nilIface (.string ⟨#[]⟩) (.int .i64 0) (.slice none 0 0) (.bool false) (.bool false) (.bool false) (.bool false) (.bool false) (.bool false) (.bool false) (.map none) hA4.out.2.blk
      have s2 := setL_below [(0, .int .i64 0), (1, .int .i64 0), (2, .int .i64 0), (3, .int .i64 0), (4, .int .i64 0), (5, .nilIface), (6, .string ⟨#[]⟩), (7, .int .i64 0), (8, .slice none 0 0), (9, .bool false), (10, .bool false), (11, .bool false), (12, .bool false), (13, .bool false), (14, .bool false), (15, .bool false), (16, .map none)] (w.heap.size + 1 + 1) hA4.out.1.below (by omega)
      clear r00 r01 r02 r03 r04 r05 r06 r07 r08 r09 r10 r11 r12 r13 r14 r15 r16 rf
      refine bodyPost_ret (v := .tuple #[.agg #[.int .i64 0, .int .i64 0, .int .i64 0, .int .i64 0, .int .i64 0, .nilIface, .string ⟨#[]⟩, .int .i64 0, .slice none 0 0, .bool false, .bool false, .bool false, .bool false, .bool false, .bool false, .bool false, .map none], .int .i64 e2]) ?_ rfl ⟨rfl, s2⟩
      show (results Tryz.f113 _).run Tryz.prog (setL wr (w.heap.size + 1 + 1) [(0, .int .i64 0), (1, .int .i64 0), (2, .int .i64 0), (3, .int .i64 0), (4, .int .i64 0), (5, .nilIface), (6, .string ⟨#[]⟩), (7, .int .i64 0), (8, .slice none 0 0), (9, .bool false), (10, .bool false), (11, .bool false), (12, .bool false), (13, .bool false), (14, .bool false), (15, .bool false), (16, .map none)]) = .ok (.tuple #[.agg #[.int .i64 0, .int .i64 0, .int .i64 0, .int .i64 0, .int .i64 0, .nilIface, .string ⟨#[]⟩, .int .i64 0, .slice none 0 0, .bool false, .bool false, .bool false, .bool false, .bool false, .bool false, .bool false, .map none], .int .i64 e2]) (setL wr (w.heap.size + 1 + 1) [(0, .int .i64 0), (1, .int .i64 0), (2, .int .i64 0), (3, .int .i64 0), (4, .int .i64 0), (5, .nilIface), (6, .string ⟨#[]⟩), (7, .int .i64 0), (8, .slice none 0 0), (9, .bool false), (10, .bool false), (11, .bool false), (12, .bool false), (13, .bool false), (14, .bool false), (15, .bool false), (16, .map none)])
      have hq := DRes.q0 ⟨s1⟩
      obtain ⟨r00, r01, r02, r03, r04, r05, r06, r07, r08, r09, r10, r11, r12, r13, r14, r15, r16⟩ := hq
      clear s1 s2
      generalize setL wr (w.heap.size + 1 + 1) _ = W at *
      simp [results, Tryz.f113, go_sem, r00, r01, r02, r03, r04, r05, r06, r07, r08, r09, r10, r11, r12, r13, r14, r15, r16]
set_option maxRecDepth 100000 in
theorem at_err2 {w : World} {s : SC} {z : ZN} {zA : Option Addr} {c : CN} {cA : Option Addr} {e1 e2 e3 : Int} (zc cc : Nat) (hz : ZAt w z zA) (hc : CAt w c cA) (h1 : s.err = e1) (h2 : z.err = e2) (h3 : c.err = e3) (g1 : (e1 != 0) = false) (g2 : (e2 != 0) = false) (g3 : (e3 != 0) = true) :
    Calls Tryz.prog 113 #[.agg #[.int .i64 s.period, .int .i64 s.nth, .int .i64 s.notice, .int .i64 s.settle, .int .i64 s.cutoff], .agg #[.string z.name, .int .i64 z.off, .slice zA z.cs.length zc, .string c.name, .bool c.w0, .bool c.w1, .bool c.w2, .bool c.w3, .bool c.w4, .bool c.w5, .bool c.w6, .slice cA c.hs.length cc]] w (RetB (.tuple #[.agg #[.int .i64 0, .int .i64 0, .int .i64 0, .int .i64 0, .int .i64 0, .nilIface, .string ⟨#[]⟩, .int .i64 0, .slice none 0 0, .bool false, .bool false, .bool false, .bool false, .bool false, .bool false, .bool false, .map none], .int .i64 e3]) w) := by
  have hA0 := Lib.hid (And.intro (((ABx.new (s := s) (zc := zc) (cc := cc) hz hc).next (bal0 _ (.cells #[.int .i64 0, .int .i64 0, .int .i64 0, .int .i64 0, .int .i64 0, .nilIface, .string ⟨#[]⟩, .int .i64 0, .slice none 0 0, .bool false, .bool false, .bool false, .bool false, .bool false, .bool false, .bool false, .map none] 147))).next (Below.refl _ _).drew) (DRes.next (R := w.heap.size + 1 + 1) (cs := #[.int .i64 0, .int .i64 0, .int .i64 0, .int .i64 0, .int .i64 0, .nilIface, .string ⟨#[]⟩, .int .i64 0, .slice none 0 0, .bool false, .bool false, .bool false, .bool false, .bool false, .bool false, .bool false, .map none]) ⟨heap_newD (w := (w.alloc (.cells #[.int .i64 s.period, .int .i64 s.nth, .int .i64 s.notice, .int .i64 s.settle, .int .i64 s.cutoff] 28)).alloc (.cells #[.string z.name, .int .i64 z.off, .slice zA z.cs.length zc, .string c.name, .bool c.w0, .bool c.w1, .bool c.w2, .bool c.w3, .bool c.w4, .bool c.w5, .bool c.w6, .slice cA c.hs.length cc] 37)) _ (by simp)⟩ (Below.refl _ _).drew))
  have HE1 := Lib.hid h1
  have HE2 := Lib.hid h2
  have HE3 := Lib.hid h3
  clear h1 h2 h3 hz hc
  go_enter Tryz.func113, Tryz.ntmps113
  go_wp2_with fail
  go_region_held3 (fun W => (W.cell? ⟨w.heap.size, 0, none⟩ = some (.int .i64 s.period) ∧ W.cell? ⟨w.heap.size, 1, none⟩ = some (.int .i64 s.nth) ∧ W.cell? ⟨w.heap.size, 2, none⟩ = some (.int .i64 s.notice) ∧ W.cell? ⟨w.heap.size, 3, none⟩ = some (.int .i64 s.settle) ∧ W.cell? ⟨w.heap.size, 4, none⟩ = some (.int .i64 s.cutoff)) ∧ (W.cell? ⟨w.heap.size + 1, 0, none⟩ = some (.string z.name) ∧ W.cell? ⟨w.heap.size + 1, 1, none⟩ = some (.int .i64 z.off) ∧ W.cell? ⟨w.heap.size + 1, 2, none⟩ = some (.slice zA z.cs.length zc) ∧ W.cell? ⟨w.heap.size + 1, 3, none⟩ = some (.string c.name) ∧ W.cell? ⟨w.heap.size + 1, 4, none⟩ = some (.bool c.w0) ∧ W.cell? ⟨w.heap.size + 1, 5, none⟩ = some (.bool c.w1) ∧ W.cell? ⟨w.heap.size + 1, 6, none⟩ = some (.bool c.w2) ∧ W.cell? ⟨w.heap.size + 1, 7, none⟩ = some (.bool c.w3) ∧ W.cell? ⟨w.heap.size + 1, 8, none⟩ = some (.bool c.w4) ∧ W.cell? ⟨w.heap.size + 1, 9, none⟩ = some (.bool c.w5) ∧ W.cell? ⟨w.heap.size + 1, 10, none⟩ = some (.bool c.w6) ∧ W.cell? ⟨w.heap.size + 1, 11, none⟩ = some (.slice cA c.hs.length cc)) ∧ ABx w W s z zA zc c cA cc ∧ DRes W (w.heap.size + 1 + 1) #[.int .i64 0, .int .i64 0, .int .i64 0, .int .i64 0, .int .i64 0, .nilIface, .string ⟨#[]⟩, .int .i64 0, .slice none 0 0, .bool false, .bool false, .bool false, .bool false, .bool false, .bool false, .bool false, .map none])
    ((first
      | (with_reducible exact ⟨hA0.out.1.qs, hA0.out.1.qp, hA0.out⟩)
      | (with_reducible exact ⟨hA1.out.1.qs, hA1.out.1.qp, hA1.out⟩)
      | (with_reducible exact ⟨hA2.out.1.qs, hA2.out.1.qp, hA2.out⟩)
      | (with_reducible exact ⟨hA3.out.1.qs, hA3.out.1.qp, hA3.out⟩)
      | (with_reducible exact ⟨hA4.out.1.qs, hA4.out.1.qp, hA4.out⟩)
      | (exact ⟨(hA3.out.1.next (bal0 _ _)).qs, (hA3.out.1.next (bal0 _ _)).qp, hA3.out.1.next (bal0 _ _), hA3.out.2.next (bal0 _ _)⟩)))
    (first
      | (go_at_call 44; refine (scheck_is HE1.out _).mono ?_; rintro e w1 ⟨rfl, hb1⟩; have hA1 := Lib.hid (And.intro (hA0.out.1.next hb1) (hA0.out.2.next hb1)))
      | (go_at_call 42; refine (zcheck_is HE2.out zA zc _ hA1.out.1.za).mono ?_; rintro e w2 ⟨rfl, hb2⟩; have hA2 := Lib.hid (And.intro (hA1.out.1.next hb2) (hA1.out.2.next hb2)))
      | (go_at_call 43; refine (ccheck_is HE3.out cA cc _ hA2.out.1.ca).mono ?_; rintro e w3 ⟨rfl, hb3⟩; have hA3 := Lib.hid (And.intro (hA2.out.1.next hb3) (hA2.out.2.next hb3))))
  have hA4 := Lib.hid (And.intro (hA3.out.1.next (bal0 _ (.cells #[.int .i64 e1, .int .i64 e2, .int .i64 e3] 39))) (hA3.out.2.next (bal0 _ (.cells #[.int .i64 e1, .int .i64 e2, .int .i64 e3] 39))))
  clear hA0 hA1 hA2 hA3 hb1 hb2 hb3 HE1 HE2 HE3
  have u0 : (w3.alloc (.cells #[.int .i64 e1, .int .i64 e2, .int .i64 e3] 39)).cell? ⟨w3.heap.size, 0, none⟩ = some (.int .i64 e1) := by rw [World.cell?_alloc_new]; rfl
  have u1 : (w3.alloc (.cells #[.int .i64 e1, .int .i64 e2, .int .i64 e3] 39)).cell? ⟨w3.heap.size, 1, none⟩ = some (.int .i64 e2) := by rw [World.cell?_alloc_new]; rfl
  have u2 : (w3.alloc (.cells #[.int .i64 e1, .int .i64 e2, .int .i64 e3] 39)).cell? ⟨w3.heap.size, 2, none⟩ = some (.int .i64 e3) := by rw [World.cell?_alloc_new]; rfl
  try clear hHeld
  generalize World.alloc w3 _ = w4 at *
  go_wp2_with fail
  go_loopw [18] (fun iv wr => ∃ k : Nat, k ≤ 2 ∧ iv = .int .i64 k ∧ wr = w4) (fun iv _ => 3 - (intOf iv).toNat)
  case atStart => exact ⟨0, by omega, rfl, rfl⟩
  case round =>
    obtain ⟨k, hk, rfl, rfl⟩ := hrel
    have hk2 : k = 0 ∨ k = 1 ∨ k = 2 := by omega
    clear hk
    rcases hk2 with rfl | rfl | rfl
    · go_wp2_with fail
      go_roundw
      case rel => exact ⟨1, by omega, rfl, by first | rfl | trivial⟩
      case measure => simp [intOf]
    · go_wp2_with fail
      go_roundw
      case rel => exact ⟨2, by omega, rfl, by first | rfl | trivial⟩
      case measure => simp [intOf]
    · obtain ⟨r00, r01, r02, r03, r04, r05, r06, r07, r08, r09, r10, r11, r12, r13, r14, r15, r16⟩ := hA4.out.2.q0
      have rf := hA4.out.2.fz
      go_wp2_with fail
      have s1 := set17 wr (w.heap.size + 1 + 1) 147 _ _ _ _ _ _ _ _ _ _ _ _ _ _ _ _ _ (.int .i64 0) (.int .i64 0) (.int .i64 0) (.int .i64 0) (.int .i64 0) .nilIface (.string ⟨#[]⟩) (.int .i64 0) (.slice none 0 0) (.bool false) (.bool false) (.bool false) (.bool false) (.bool false) (.bool false) (.bool false) (.map none) hA4.out.2.blk
      have s2 := setL_below [(0, .int .i64 0), (1, .int .i64 0), (2, .int .i64 0), (3, .int .i64 0), (4, .int .i64 0), (5, .nilIface), (6, .string ⟨#[]⟩), (7, .int .i64 0), (8, .slice none 0 0), (9, .bool false), (10, .bool false), (11, .bool false), (12, .bool false), (13, .bool false), (14, .bool false), (15, .bool false), (16, .map none)] (w.heap.size + 1 + 1) hA4.out.1.below (by omega)
      clear r00 r01 r02 r03 r04 r05 r06 r07 r08 r09 r10 r11 r12 r13 r14 r15 r16 rf
      refine bodyPost_ret (v := .tuple #[.agg #[.int .i64 0, .int .i64 0, .int .i64 0, .int .i64 0, .int .i64 0, .nilIface, .string ⟨#[]⟩, .int .i64 0, .slice none 0 0, .bool false, .bool false, .bool false, .bool false, .bool false, .bool false, .bool false, .map none], .int .i64 e3]) ?_ rfl ⟨rfl, s2⟩
      show (results Tryz.f113 _).run Tryz.prog (setL wr (w.heap.size + 1 + 1) [(0, .int .i64 0), (1, .int .i64 0), (2, .int .i64 0), (3, .int .i64 0), (4, .int .i64 0), (5, .nilIface), (6, .string ⟨#[]⟩), (7, .int .i64 0), (8, .slice none 0 0), (9, .bool false), (10, .bool false), (11, .bool false), (12, .bool false), (13, .bool false), (14, .bool false), (15, .bool false), (16, .map none)]) = .ok (.tuple #[.agg #[.int .i64 0, .int .i64 0, .int .i64 0, .int .i64 0, .int .i64 0, .nilIface, .string ⟨#[]⟩, .int .i64 0, .slice none 0 0, .bool false, .bool false, .bool false, .bool false, .bool false, .bool false, .bool false, .map none], .int .i64 e3]) (setL wr (w.heap.size + 1 + 1) [(0, .int .i64 0), (1, .int .i64 0), (2, .int .i64 0), (3, .int .i64 0), (4, .int .i64 0), (5, .nilIface), (6, .string ⟨#[]⟩), (7, .int .i64 0), (8, .slice none 0 0), (9, .bool false), (10, .bool false), (11, .bool false), (12, .bool false), (13, .bool false), (14, .bool false), (15, .bool false), (16, .map none)])
      have hq := DRes.q0 ⟨s1⟩
      obtain ⟨r00, r01, r02, r03, r04, r05, r06, r07, r08, r09, r10, r11, r12, r13, r14, r15, r16⟩ := hq
      clear s1 s2
      generalize setL wr (w.heap.size + 1 + 1) _ = W at *
      simp [results, Tryz.f113, go_sem, r00, r01, r02, r03, r04, r05, r06, r07, r08, r09, r10, r11, r12, r13, r14, r15, r16]
/-- What a good desk stands on. -/
structure DSt (W : World) (z : ZN) (zA : Option Addr) (c : CN) (b : Nat) : Prop where
  hol : HolAt W c b
  za : ZAt W z zA
theorem DSt.next {W W' : World} {z : ZN} {zA : Option Addr} {c : CN} {b : Nat} (h : DSt W z zA c b) (hb : Below W.heap.size W W') : DSt W' z zA c b := ⟨h.hol.next hb, h.za.below hb⟩
def AtP (s : SC) (z : ZN) (zA : Option Addr) (zc : Nat) (c : CN) (w : World) (e : Ending) (w' : World) : Prop :=
  ∃ b, e = .returned (.tuple #[.agg #[.int .i64 s.period, .int .i64 s.nth, .int .i64 s.notice, .int .i64 s.settle, .int .i64 s.cutoff, .iface (rT s.period) (.agg #[.int .i64 s.nth]), .string z.name, .int .i64 z.off, .slice zA z.cs.length zc, .bool c.w0, .bool c.w1, .bool c.w2, .bool c.w3, .bool c.w4, .bool c.w5, .bool c.w6, .map (some b)], .int .i64 0]) ∧ DSt w' z zA c b ∧ Below w.heap.size w w'
set_option maxRecDepth 100000 in
theorem at_ok {w : World} {s : SC} {z : ZN} {zA : Option Addr} {c : CN} {cA : Option Addr} (zc cc : Nat) (hz : ZAt w z zA) (hc : CAt w c cA) (h1 : s.ok = true) (h2 : z.ok = true) (h3 : c.ok = true) :
    Calls Tryz.prog 113 #[.agg #[.int .i64 s.period, .int .i64 s.nth, .int .i64 s.notice, .int .i64 s.settle, .int .i64 s.cutoff], .agg #[.string z.name, .int .i64 z.off, .slice zA z.cs.length zc, .string c.name, .bool c.w0, .bool c.w1, .bool c.w2, .bool c.w3, .bool c.w4, .bool c.w5, .bool c.w6, .slice cA c.hs.length cc]] w (AtP s z zA zc c w) := by
  have hA0 := Lib.hid (And.intro (((ABx.new (s := s) (zc := zc) (cc := cc) hz hc).next (bal0 _ (.cells #[.int .i64 0, .int .i64 0, .int .i64 0, .int .i64 0, .int .i64 0, .nilIface, .string ⟨#[]⟩, .int .i64 0, .slice none 0 0, .bool false, .bool false, .bool false, .bool false, .bool false, .bool false, .bool false, .map none] 147))).next (Below.refl _ _).drew) (DRes.next (R := w.heap.size + 1 + 1) (cs := #[.int .i64 0, .int .i64 0, .int .i64 0, .int .i64 0, .int .i64 0, .nilIface, .string ⟨#[]⟩, .int .i64 0, .slice none 0 0, .bool false, .bool false, .bool false, .bool false, .bool false, .bool false, .bool false, .map none]) ⟨heap_newD (w := (w.alloc (.cells #[.int .i64 s.period, .int .i64 s.nth, .int .i64 s.notice, .int .i64 s.settle, .int .i64 s.cutoff] 28)).alloc (.cells #[.string z.name, .int .i64 z.off, .slice zA z.cs.length zc, .string c.name, .bool c.w0, .bool c.w1, .bool c.w2, .bool c.w3, .bool c.w4, .bool c.w5, .bool c.w6, .slice cA c.hs.length cc] 37)) _ (by simp)⟩ (Below.refl _ _).drew))
  have hAb := And.intro hz hc
  have HAB := Lib.hid hAb
  have HE1 := Lib.hid (SC.err_of_ok h1)
  have HE2 := Lib.hid (ZN.err_of_ok h2)
  have HE3 := Lib.hid (CN.err_of_ok h3)
  have HP := Lib.hid (ruleOk_per (SC.ok_rule h1))
  have HC := Lib.hid h3
  clear h1 h2 h3 hz hc hAb
  go_enter Tryz.func113, Tryz.ntmps113
  go_wp2_with fail
  go_region_held3 (fun W => (W.cell? ⟨w.heap.size, 0, none⟩ = some (.int .i64 s.period) ∧ W.cell? ⟨w.heap.size, 1, none⟩ = some (.int .i64 s.nth) ∧ W.cell? ⟨w.heap.size, 2, none⟩ = some (.int .i64 s.notice) ∧ W.cell? ⟨w.heap.size, 3, none⟩ = some (.int .i64 s.settle) ∧ W.cell? ⟨w.heap.size, 4, none⟩ = some (.int .i64 s.cutoff)) ∧ (W.cell? ⟨w.heap.size + 1, 0, none⟩ = some (.string z.name) ∧ W.cell? ⟨w.heap.size + 1, 1, none⟩ = some (.int .i64 z.off) ∧ W.cell? ⟨w.heap.size + 1, 2, none⟩ = some (.slice zA z.cs.length zc) ∧ W.cell? ⟨w.heap.size + 1, 3, none⟩ = some (.string c.name) ∧ W.cell? ⟨w.heap.size + 1, 4, none⟩ = some (.bool c.w0) ∧ W.cell? ⟨w.heap.size + 1, 5, none⟩ = some (.bool c.w1) ∧ W.cell? ⟨w.heap.size + 1, 6, none⟩ = some (.bool c.w2) ∧ W.cell? ⟨w.heap.size + 1, 7, none⟩ = some (.bool c.w3) ∧ W.cell? ⟨w.heap.size + 1, 8, none⟩ = some (.bool c.w4) ∧ W.cell? ⟨w.heap.size + 1, 9, none⟩ = some (.bool c.w5) ∧ W.cell? ⟨w.heap.size + 1, 10, none⟩ = some (.bool c.w6) ∧ W.cell? ⟨w.heap.size + 1, 11, none⟩ = some (.slice cA c.hs.length cc)) ∧ ABx w W s z zA zc c cA cc ∧ DRes W (w.heap.size + 1 + 1) #[.int .i64 0, .int .i64 0, .int .i64 0, .int .i64 0, .int .i64 0, .nilIface, .string ⟨#[]⟩, .int .i64 0, .slice none 0 0, .bool false, .bool false, .bool false, .bool false, .bool false, .bool false, .bool false, .map none])
    ((first
      | (with_reducible exact ⟨hA0.out.1.qs, hA0.out.1.qp, hA0.out⟩)
      | (with_reducible exact ⟨hA1.out.1.qs, hA1.out.1.qp, hA1.out⟩)
      | (with_reducible exact ⟨hA2.out.1.qs, hA2.out.1.qp, hA2.out⟩)
      | (with_reducible exact ⟨hA3.out.1.qs, hA3.out.1.qp, hA3.out⟩)
      | (with_reducible exact ⟨hA4.out.1.qs, hA4.out.1.qp, hA4.out⟩)
      | (exact ⟨(hA3.out.1.next (bal0 _ _)).qs, (hA3.out.1.next (bal0 _ _)).qp, hA3.out.1.next (bal0 _ _), hA3.out.2.next (bal0 _ _)⟩)))
    (first
      | (go_at_call 44; refine (scheck_is HE1.out _).mono ?_; rintro e w1 ⟨rfl, hb1⟩; have hA1 := Lib.hid (And.intro (hA0.out.1.next hb1) (hA0.out.2.next hb1)))
      | (go_at_call 42; refine (zcheck_is HE2.out zA zc _ hA1.out.1.za).mono ?_; rintro e w2 ⟨rfl, hb2⟩; have hA2 := Lib.hid (And.intro (hA1.out.1.next hb2) (hA1.out.2.next hb2)))
      | (go_at_call 43; refine (ccheck_is HE3.out cA cc _ hA2.out.1.ca).mono ?_; rintro e w3 ⟨rfl, hb3⟩; have hA3 := Lib.hid (And.intro (hA2.out.1.next hb3) (hA2.out.2.next hb3))))
  have hA4 := Lib.hid (And.intro (hA3.out.1.next (bal0 _ (.cells #[.int .i64 0, .int .i64 0, .int .i64 0] 39))) (hA3.out.2.next (bal0 _ (.cells #[.int .i64 0, .int .i64 0, .int .i64 0] 39))))
  clear hA0 hA1 hA2 hA3 hb1 hb2 hb3 HE1 HE2 HE3
  have u0 : (w3.alloc (.cells #[.int .i64 0, .int .i64 0, .int .i64 0] 39)).cell? ⟨w3.heap.size, 0, none⟩ = some (.int .i64 0) := by rw [World.cell?_alloc_new]; rfl
  have u1 : (w3.alloc (.cells #[.int .i64 0, .int .i64 0, .int .i64 0] 39)).cell? ⟨w3.heap.size, 1, none⟩ = some (.int .i64 0) := by rw [World.cell?_alloc_new]; rfl
  have u2 : (w3.alloc (.cells #[.int .i64 0, .int .i64 0, .int .i64 0] 39)).cell? ⟨w3.heap.size, 2, none⟩ = some (.int .i64 0) := by rw [World.cell?_alloc_new]; rfl
  try clear hHeld
  generalize World.alloc w3 _ = w4 at *
  go_wp2_with fail
  go_loopw [18] (fun iv wr => ∃ k : Nat, k ≤ 3 ∧ iv = .int .i64 k ∧ wr = w4) (fun iv _ => 3 - (intOf iv).toNat)
  case atStart => exact ⟨0, by omega, rfl, rfl⟩
  case round =>
    obtain ⟨k, hk, rfl, rfl⟩ := hrel
    have hk2 : k = 0 ∨ k = 1 ∨ k = 2 ∨ k = 3 := by omega
    clear hk
    rcases hk2 with rfl | rfl | rfl | rfl
    · go_wp2_with fail
      go_roundw
      case rel => exact ⟨1, by omega, rfl, by first | rfl | trivial⟩
      case measure => simp [intOf]
    · go_wp2_with fail
      go_roundw
      case rel => exact ⟨2, by omega, rfl, by first | rfl | trivial⟩
      case measure => simp [intOf]
    · go_wp2_with fail
      go_roundw
      case rel => exact ⟨3, by omega, rfl, by first | rfl | trivial⟩
      case measure => simp [intOf]
    · clear u0 u1 u2
      go_wp2_with fail
      have hB0 := Lib.hid (And.intro (hA4.out.1.next (Below.refl _ _).drew) (hA4.out.2.next (Below.refl _ _).drew))
      have hFar : ∀ b (W : World), ABx w W s z zA zc c cA cc → ABx w (setL W (w.heap.size + 1 + 1) [(0, .int .i64 s.period), (1, .int .i64 s.nth), (2, .int .i64 s.notice), (3, .int .i64 s.settle), (4, .int .i64 s.cutoff), (5, .iface (rT s.period) (.agg #[.int .i64 s.nth])), (6, .string z.name), (7, .int .i64 z.off), (8, .slice zA z.cs.length zc), (9, .bool c.w0), (10, .bool c.w1), (11, .bool c.w2), (12, .bool c.w3), (13, .bool c.w4), (14, .bool c.w5), (15, .bool c.w6), (16, .map (some b))]) s z zA zc c cA cc := fun b W h =>
        ⟨(setL_far _ W _ _ (by omega)).trans h.sb, (setL_far _ W _ _ (by omega)).trans h.pb, HAB.out.1.below (setL_below _ _ h.below (by omega)), HAB.out.2.below (setL_below _ _ h.below (by omega)), setL_below _ _ h.below (by omega)⟩
      have HFar := Lib.hid hFar
      clear hFar
      go_region_held3 (fun W => (W.cell? ⟨w.heap.size, 0, none⟩ = some (.int .i64 s.period) ∧ W.cell? ⟨w.heap.size, 1, none⟩ = some (.int .i64 s.nth) ∧ W.cell? ⟨w.heap.size, 2, none⟩ = some (.int .i64 s.notice) ∧ W.cell? ⟨w.heap.size, 3, none⟩ = some (.int .i64 s.settle) ∧ W.cell? ⟨w.heap.size, 4, none⟩ = some (.int .i64 s.cutoff)) ∧ (W.cell? ⟨w.heap.size + 1, 0, none⟩ = some (.string z.name) ∧ W.cell? ⟨w.heap.size + 1, 1, none⟩ = some (.int .i64 z.off) ∧ W.cell? ⟨w.heap.size + 1, 2, none⟩ = some (.slice zA z.cs.length zc) ∧ W.cell? ⟨w.heap.size + 1, 3, none⟩ = some (.string c.name) ∧ W.cell? ⟨w.heap.size + 1, 4, none⟩ = some (.bool c.w0) ∧ W.cell? ⟨w.heap.size + 1, 5, none⟩ = some (.bool c.w1) ∧ W.cell? ⟨w.heap.size + 1, 6, none⟩ = some (.bool c.w2) ∧ W.cell? ⟨w.heap.size + 1, 7, none⟩ = some (.bool c.w3) ∧ W.cell? ⟨w.heap.size + 1, 8, none⟩ = some (.bool c.w4) ∧ W.cell? ⟨w.heap.size + 1, 9, none⟩ = some (.bool c.w5) ∧ W.cell? ⟨w.heap.size + 1, 10, none⟩ = some (.bool c.w6) ∧ W.cell? ⟨w.heap.size + 1, 11, none⟩ = some (.slice cA c.hs.length cc)) ∧ ABx w W s z zA zc c cA cc)
        ((first
          | (with_reducible exact hB0.out.1.S)
          | (with_reducible exact hB1.out.1.S)
          | (with_reducible exact hB2.out.1.S)
          | (exact (HFar.out b _ hB2.out.1).S)))
        (first
          | (go_at_call 71; refine (of_in s HP.out _).mono ?_; rintro e w5 ⟨rfl, hb5⟩; have hB1 := Lib.hid (And.intro (hB0.out.1.next hb5) (hB0.out.2.next hb5)))
          | (go_at_call 121; refine (of_any c cA cc _ hB1.out.1.ca HC.out).mono ?_; rintro e w6 ⟨b, rfl, hh6, hb6⟩; have hB2 := Lib.hid (And.intro (hB1.out.1.next hb6) (hB1.out.2.next hb6)); obtain ⟨r00, r01, r02, r03, r04, r05, r06, r07, r08, r09, r10, r11, r12, r13, r14, r15, r16⟩ := hB2.out.2.q0; have rf := hB2.out.2.fz))
      clear r00 r01 r02 r03 r04 r05 r06 r07 r08 r09 r10 r11 r12 r13 r14 r15 r16 rf
      have hbR : b ≠ w.heap.size + 1 + 1 := by
        intro e
        obtain ⟨es, clock, hm, -⟩ := hh6.own
        have := hB2.out.2.blk
        rw [e, this] at hm
        injection hm with hm
        cases hm
      have s1 := set17 w6 (w.heap.size + 1 + 1) 147 _ _ _ _ _ _ _ _ _ _ _ _ _ _ _ _ _ (.int .i64 s.period) (.int .i64 s.nth) (.int .i64 s.notice) (.int .i64 s.settle) (.int .i64 s.cutoff) (.iface (rT s.period) (.agg #[.int .i64 s.nth])) (.string z.name) (.int .i64 z.off) (.slice zA z.cs.length zc) (.bool c.w0) (.bool c.w1) (.bool c.w2) (.bool c.w3) (.bool c.w4) (.bool c.w5) (.bool c.w6) (.map (some b)) hB2.out.2.blk
      have s2 := HFar.out b w6 hB2.out.1
      have s3 : DSt (setL w6 (w.heap.size + 1 + 1) [(0, .int .i64 s.period), (1, .int .i64 s.nth), (2, .int .i64 s.notice), (3, .int .i64 s.settle), (4, .int .i64 s.cutoff), (5, .iface (rT s.period) (.agg #[.int .i64 s.nth])), (6, .string z.name), (7, .int .i64 z.off), (8, .slice zA z.cs.length zc), (9, .bool c.w0), (10, .bool c.w1), (11, .bool c.w2), (12, .bool c.w3), (13, .bool c.w4), (14, .bool c.w5), (15, .bool c.w6), (16, .map (some b))]) z zA c b := ⟨hh6.keep (by rw [setL_size]; exact Nat.le_refl _) (setL_far _ _ _ _ hbR), s2.za⟩
      have s4 := s2.below
      have hq := DRes.q ⟨s1⟩
      try clear hHeld
      show Exit.then _ _ Exit.normal _ (setL w6 (w.heap.size + 1 + 1) [(0, .int .i64 s.period), (1, .int .i64 s.nth), (2, .int .i64 s.notice), (3, .int .i64 s.settle), (4, .int .i64 s.cutoff), (5, .iface (rT s.period) (.agg #[.int .i64 s.nth])), (6, .string z.name), (7, .int .i64 z.off), (8, .slice zA z.cs.length zc), (9, .bool c.w0), (10, .bool c.w1), (11, .bool c.w2), (12, .bool c.w3), (13, .bool c.w4), (14, .bool c.w5), (15, .bool c.w6), (16, .map (some b))])
      clear s1 s2
      generalize setL w6 (w.heap.size + 1 + 1) _ = W at *
      obtain ⟨r00, r01, r02, r03, r04, r05, r06, r07, r08, r09, r10, r11, r12, r13, r14, r15, r16⟩ := hq
      go_wp2_with fail
      refine bodyPost_ret (v := .tuple #[.agg #[.int .i64 s.period, .int .i64 s.nth, .int .i64 s.notice, .int .i64 s.settle, .int .i64 s.cutoff, .iface (rT s.period) (.agg #[.int .i64 s.nth]), .string z.name, .int .i64 z.off, .slice zA z.cs.length zc, .bool c.w0, .bool c.w1, .bool c.w2, .bool c.w3, .bool c.w4, .bool c.w5, .bool c.w6, .map (some b)], .int .i64 0]) ?_ rfl ⟨b, rfl, s3, s4⟩
      simp [results, Tryz.f113, go_sem, r00, r01, r02, r03, r04, r05, r06, r07, r08, r09, r10, r11, r12, r13, r14, r15, r16]
end Go.Proofs.YtbfllcfjgpkpaaaGreat
