/- What the laws lean on. -/
import Derived.Test.YteaahhokaffmdaaGreatDoorPt4
namespace Go.Proofs.YteaahhokaffmdaaGreatDoor
set_option linter.unusedVariables false
set_option linter.unusedSimpArgs false
section
open Go.RowKit
set_option maxHeartbeats 20000000
structure DivW (w W : World) (g k Q R a b q r : Nat) : Prop where
 a : MagAt W g a
 b : MagAt W k b
 q : MagAt W Q q
 r : MagAt W R r
 below : Below w.heap.size w W
 ng : g < w.heap.size
 nk : k < w.heap.size
 nQ : w.heap.size ≤ Q
 nR : Q < R
theorem DivW.next {w W W' : World} {g k Q R a b q r : Nat} (h : DivW w W g k Q R a b q r) (hb : Below W.heap.size W W') : DivW w W' g k Q R a b q r :=
 ⟨h.a.next hb, h.b.next hb, h.q.next hb, h.r.next hb, bnext h.below hb, h.ng, h.nk, h.nQ, h.nR⟩
theorem DivW.rowQ {w W : World} {g k Q R a b q r : Nat} (h : DivW w W g k Q R a b q r) (c : Nat) : DivW w (W.setRow Q (limA 32 c)) g k Q R a b c r :=
 ⟨BlkAt.rowFar h.a (by have := h.ng; have := h.nQ; omega), BlkAt.rowFar h.b (by have := h.nk; have := h.nQ; omega), BlkAt.set h.q _, BlkAt.rowFar h.r (by have := h.nR; omega), Below.setRow h.below h.nQ _, h.ng, h.nk, h.nQ, h.nR⟩
theorem DivW.rowR {w W : World} {g k Q R a b q r : Nat} (h : DivW w W g k Q R a b q r) (c : Nat) : DivW w (W.setRow R (limA 32 c)) g k Q R a b q c :=
 ⟨BlkAt.rowFar h.a (by have := h.ng; have := h.nQ; have := h.nR; omega), BlkAt.rowFar h.b (by have := h.nk; have := h.nQ; have := h.nR; omega), BlkAt.rowFar h.q (by have := h.nR; omega), BlkAt.set h.r _, Below.setRow h.below (by have := h.nQ; have := h.nR; omega) _, h.ng, h.nk, h.nQ, h.nR⟩
theorem DivW.setR {w W : World} {g k Q R a b q r i d : Nat} (h : DivW w W g k Q R a b q r) (hd : d < 4294967296) : DivW w (W.setCell ⟨R, i, none⟩ (.int .u32 d)) g k Q R a b q (setM r i d) :=
 ⟨h.a.far (by have := h.ng; have := h.nQ; have := h.nR; omega), h.b.far (by have := h.nk; have := h.nQ; have := h.nR; omega), h.q.far (by have := h.nR; omega), h.r.set hd, h.below.setCell (show w.heap.size ≤ R by have := h.nQ; have := h.nR; omega) _, h.ng, h.nk, h.nQ, h.nR⟩
theorem DivW.setQ {w W : World} {g k Q R a b q r i d : Nat} (h : DivW w W g k Q R a b q r) (hd : d < 4294967296) : DivW w (W.setCell ⟨Q, i, none⟩ (.int .u32 d)) g k Q R a b (setM q i d) r :=
 ⟨h.a.far (by have := h.ng; have := h.nQ; omega), h.b.far (by have := h.nk; have := h.nQ; omega), h.q.set hd, h.r.far (by have := h.nR; omega), h.below.setCell h.nQ _, h.ng, h.nk, h.nQ, h.nR⟩
theorem DivW.own {w W W' : World} {g k Q R a b q r c : Nat} (h : DivW w W g k Q R a b q r) (ho : Own Q W W') (hq : MagAt W' Q c) : DivW w W' g k Q R a b c r :=
 ⟨ho.blk h.a (by have := h.ng; have := h.nQ; omega), ho.blk h.b (by have := h.nk; have := h.nQ; omega), hq, ho.blk h.r (by have := h.nR; omega), h.below.trans (ho.below h.nQ h.below.size), h.ng, h.nk, h.nQ, h.nR⟩
theorem rowMagZ : RowV Tryz.prog 155 #[.int .u32 0, .int .u32 0, .int .u32 0, .int .u32 0, .int .u32 0, .int .u32 0, .int .u32 0, .int .u32 0, .int .u32 0, .int .u32 0, .int .u32 0, .int .u32 0, .int .u32 0, .int .u32 0, .int .u32 0, .int .u32 0, .int .u32 0, .int .u32 0, .int .u32 0, .int .u32 0, .int .u32 0, .int .u32 0, .int .u32 0, .int .u32 0, .int .u32 0, .int .u32 0, .int .u32 0, .int .u32 0, .int .u32 0, .int .u32 0, .int .u32 0, .int .u32 0] := by
 have h := rowMag 0
 rw [magZ] at h
 exact h
def SumAt (W : World) (g c : Nat) : Prop := BlkAt W g (limA 33 c) 233
theorem SumAt.cell {W : World} {g m i : Nat} (h : SumAt W g m) (hi : i < 33) : W.cell? ⟨g, i, none⟩ = some (.int .u32 (lim m i)) := BlkAt.cell h (limA_at hi)
theorem SumAt.next {W W' : World} {g m : Nat} (h : SumAt W g m) (hb : Below W.heap.size W W') : SumAt W' g m := BlkAt.next h hb
theorem SumAt.set {W : World} {g m i d : Nat} (h : SumAt W g m) (hd : d < 4294967296) : SumAt (W.setCell ⟨g, i, none⟩ (.int .u32 d)) g (setM m i d) := BlkAt.is (BlkAt.cellSet h i _) (limA_set hd)
theorem SumAt.far {W : World} {g k m i : Nat} {v : Value} (h : SumAt W g m) (hn : g ≠ k) : SumAt (W.setCell ⟨k, i, none⟩ v) g m := BlkAt.cellFar h i v hn
theorem shl_cast (x s : Nat) : (x : Int) * 2 ^ s % 4294967296 = ((x * 2 ^ s % 4294967296 : Nat) : Int) := by
 rw [Int.natCast_emod, Int.natCast_mul, Int.natCast_pow]; rfl
theorem shr_cast (x s : Nat) : (x : Int) / 2 ^ s = ((x / 2 ^ s : Nat) : Int) := by
 rw [Int.natCast_ediv, Int.natCast_pow]; rfl
theorem big33Z : limA 33 0 = #[.int .u32 0, .int .u32 0, .int .u32 0, .int .u32 0, .int .u32 0, .int .u32 0, .int .u32 0, .int .u32 0, .int .u32 0, .int .u32 0, .int .u32 0, .int .u32 0, .int .u32 0, .int .u32 0, .int .u32 0, .int .u32 0, .int .u32 0, .int .u32 0, .int .u32 0, .int .u32 0, .int .u32 0, .int .u32 0, .int .u32 0, .int .u32 0, .int .u32 0, .int .u32 0, .int .u32 0, .int .u32 0, .int .u32 0, .int .u32 0, .int .u32 0, .int .u32 0, .int .u32 0] := by rw [limA_zero]; rfl
structure DivU (w W : World) (g k Q R U V a b q r u v : Nat) : Prop where
 d : DivW w W g k Q R a b q r
 u : SumAt W U u
 v : MagAt W V v
 nU : R < U
 nV : U < V
theorem DivU.next {w W W' : World} {g k Q R U V a b q r u v : Nat} (h : DivU w W g k Q R U V a b q r u v) (hb : Below W.heap.size W W') : DivU w W' g k Q R U V a b q r u v := ⟨h.d.next hb, h.u.next hb, h.v.next hb, h.nU, h.nV⟩
theorem DivW.far {w W : World} {g k Q R a b q r B i : Nat} {x : Value} (h : DivW w W g k Q R a b q r) (hB : R < B) : DivW w (W.setCell ⟨B, i, none⟩ x) g k Q R a b q r :=
 ⟨h.a.far (by have := h.ng; have := h.nQ; have := h.nR; omega), h.b.far (by have := h.nk; have := h.nQ; have := h.nR; omega), h.q.far (by have := h.nR; omega), h.r.far (by omega), h.below.setCell (show w.heap.size ≤ B by have := h.nQ; have := h.nR; omega) _, h.ng, h.nk, h.nQ, h.nR⟩
theorem DivU.setU {w W : World} {g k Q R U V a b q r u v i d : Nat} (h : DivU w W g k Q R U V a b q r u v) (hd : d < 4294967296) : DivU w (W.setCell ⟨U, i, none⟩ (.int .u32 d)) g k Q R U V a b q r (setM u i d) v :=
 ⟨h.d.far h.nU, h.u.set hd, h.v.far (by have := h.nV; omega), h.nU, h.nV⟩
theorem DivU.setV {w W : World} {g k Q R U V a b q r u v i d : Nat} (h : DivU w W g k Q R U V a b q r u v) (hd : d < 4294967296) : DivU w (W.setCell ⟨V, i, none⟩ (.int .u32 d)) g k Q R U V a b q r u (setM v i d) :=
 ⟨h.d.far (by have := h.nU; have := h.nV; omega), h.u.far (by have := h.nV; omega), h.v.set hd, h.nU, h.nV⟩
theorem DivU.setQ {w W : World} {g k Q R U V a b q r u v i d : Nat} (h : DivU w W g k Q R U V a b q r u v) (hd : d < 4294967296) : DivU w (W.setCell ⟨Q, i, none⟩ (.int .u32 d)) g k Q R U V a b (setM q i d) r u v :=
 ⟨h.d.setQ hd, h.u.far (by have := h.nU; have := h.d.nR; omega), h.v.far (by have := h.nU; have := h.nV; have := h.d.nR; omega), h.nU, h.nV⟩
theorem DivU.setR {w W : World} {g k Q R U V a b q r u v i d : Nat} (h : DivU w W g k Q R U V a b q r u v) (hd : d < 4294967296) : DivU w (W.setCell ⟨R, i, none⟩ (.int .u32 d)) g k Q R U V a b q (setM r i d) u v :=
 ⟨h.d.setR hd, h.u.far (by have := h.nU; omega), h.v.far (by have := h.nU; have := h.nV; omega), h.nU, h.nV⟩
set_option maxRecDepth 100000 in
theorem divide_any {a b g k : Nat} {w : World} (ha : MagAt w g a) (hb : MagAt w k b) (la : a < bp 32) (lb : b < bp 32) (hb0 : b ≠ 0) : Calls Tryz.prog 196 #[.pointer (some ⟨g, 0, none⟩), .pointer (some ⟨k, 0, none⟩)] w (RetB (.tuple #[.agg (limA 32 (a / b)), .agg (limA 32 (a % b))]) w) := by
 obtain ⟨n, hn, hun⟩ := used_ex b lb
 obtain ⟨m, hm, hum⟩ := used_ex a la
 have hgl := BlkAt.lt ha
 have hkl := BlkAt.lt hb
 have hbl := bal (bal0 w (.cells #[.int .u32 0, .int .u32 0, .int .u32 0, .int .u32 0, .int .u32 0, .int .u32 0, .int .u32 0, .int .u32 0, .int .u32 0, .int .u32 0, .int .u32 0, .int .u32 0, .int .u32 0, .int .u32 0, .int .u32 0, .int .u32 0, .int .u32 0, .int .u32 0, .int .u32 0, .int .u32 0, .int .u32 0, .int .u32 0, .int .u32 0, .int .u32 0, .int .u32 0, .int .u32 0, .int .u32 0, .int .u32 0, .int .u32 0, .int .u32 0, .int .u32 0, .int .u32 0] 155)) (.cells #[.int .u32 0, .int .u32 0, .int .u32 0, .int .u32 0, .int .u32 0, .int .u32 0, .int .u32 0, .int .u32 0, .int .u32 0, .int .u32 0, .int .u32 0, .int .u32 0, .int .u32 0, .int .u32 0, .int .u32 0, .int .u32 0, .int .u32 0, .int .u32 0, .int .u32 0, .int .u32 0, .int .u32 0, .int .u32 0, .int .u32 0, .int .u32 0, .int .u32 0, .int .u32 0, .int .u32 0, .int .u32 0, .int .u32 0, .int .u32 0, .int .u32 0, .int .u32 0] 155)
 have HW := Lib.hid (show DivW w ((w.alloc (.cells #[.int .u32 0, .int .u32 0, .int .u32 0, .int .u32 0, .int .u32 0, .int .u32 0, .int .u32 0, .int .u32 0, .int .u32 0, .int .u32 0, .int .u32 0, .int .u32 0, .int .u32 0, .int .u32 0, .int .u32 0, .int .u32 0, .int .u32 0, .int .u32 0, .int .u32 0, .int .u32 0, .int .u32 0, .int .u32 0, .int .u32 0, .int .u32 0, .int .u32 0, .int .u32 0, .int .u32 0, .int .u32 0, .int .u32 0, .int .u32 0, .int .u32 0, .int .u32 0] 155)).alloc (.cells #[.int .u32 0, .int .u32 0, .int .u32 0, .int .u32 0, .int .u32 0, .int .u32 0, .int .u32 0, .int .u32 0, .int .u32 0, .int .u32 0, .int .u32 0, .int .u32 0, .int .u32 0, .int .u32 0, .int .u32 0, .int .u32 0, .int .u32 0, .int .u32 0, .int .u32 0, .int .u32 0, .int .u32 0, .int .u32 0, .int .u32 0, .int .u32 0, .int .u32 0, .int .u32 0, .int .u32 0, .int .u32 0, .int .u32 0, .int .u32 0, .int .u32 0, .int .u32 0] 155)) g k w.heap.size (w.heap.size + 1) a b 0 0 from
  ⟨ha.next hbl, hb.next hbl, MagAt.zero ((BlkAt.new _ _ _).al _), MagAt.zero (BlkAt.newAt _ _ _ (by simp)), hbl, hgl, hkl, Nat.le_refl _, by omega⟩)
 have u1 := fun {W : World} (h : MagAt W k b) => used_any h lb hun
 have u2 := fun {W : World} (h : MagAt W g a) => used_any h la hum
 have u3 := fun {W : World} (h1 : MagAt W g a) (h2 : MagAt W k b) => cmp_any h1 h2 la lb
 have HU := Lib.hid (And.intro hun (And.intro hum (And.intro la (And.intro lb hb0))))
 clear ha hb la lb hun hum hbl hgl hkl
 obtain ⟨q0, hq0⟩ : ∃ q, a / b = q := ⟨_, rfl⟩
 obtain ⟨r0, hr0⟩ : ∃ r, a % b = r := ⟨_, rfl⟩
 rw [hq0, hr0]
 have HR := Lib.hid (And.intro hq0 hr0)
 clear hq0 hr0
 go_enter Tryz.func196, Tryz.ntmps196
 go_wp2_with fail
 generalize (w.alloc _).alloc _ = w0 at *
 refine (u1 HW.out.b).mono ?_
 rintro e1 w1 ⟨rfl, hb1⟩
 have HW1 := Lib.hid (HW.out.next hb1)
 clear hb1 HW u1
 go_wp2_with fail
 refine (u2 HW1.out.a).mono ?_
 rintro e2 w2 ⟨rfl, hb2⟩
 have HW2 := Lib.hid (HW1.out.next hb2)
 clear hb2 HW1 u2
 go_wp2_with fail
 refine (u3 HW2.out.a HW2.out.b).mono ?_
 rintro e3 w3 ⟨rfl, hb3⟩
 have HW3 := Lib.hid (HW2.out.next hb3)
 clear hb3 HW2 u3
 by_cases hab : a < b
 ·have hc : cmpN a b = -1 := by simp [cmpN, hab]
  rw [hc]
  obtain ⟨rfl, rfl⟩ : q0 = 0 ∧ r0 = a := ⟨by rw [← HR.out.1, Nat.div_eq_of_lt hab], by rw [← HR.out.2, Nat.mod_eq_of_lt hab]⟩
  have hz : limA 32 0 = #[.int .u32 0, .int .u32 0, .int .u32 0, .int .u32 0, .int .u32 0, .int .u32 0, .int .u32 0, .int .u32 0, .int .u32 0, .int .u32 0, .int .u32 0, .int .u32 0, .int .u32 0, .int .u32 0, .int .u32 0, .int .u32 0, .int .u32 0, .int .u32 0, .int .u32 0, .int .u32 0, .int .u32 0, .int .u32 0, .int .u32 0, .int .u32 0, .int .u32 0, .int .u32 0, .int .u32 0, .int .u32 0, .int .u32 0, .int .u32 0, .int .u32 0, .int .u32 0] := magZ
  clear hc hab HR HU
  have HB := Lib.hid (show BlkAt w3 w.heap.size #[.int .u32 0, .int .u32 0, .int .u32 0, .int .u32 0, .int .u32 0, .int .u32 0, .int .u32 0, .int .u32 0, .int .u32 0, .int .u32 0, .int .u32 0, .int .u32 0, .int .u32 0, .int .u32 0, .int .u32 0, .int .u32 0, .int .u32 0, .int .u32 0, .int .u32 0, .int .u32 0, .int .u32 0, .int .u32 0, .int .u32 0, .int .u32 0, .int .u32 0, .int .u32 0, .int .u32 0, .int .u32 0, .int .u32 0, .int .u32 0, .int .u32 0, .int .u32 0] 155 from BlkAt.is HW3.out.q.blk hz)
  have HWQ := Lib.hid (show DivW w (w3.setRow w.heap.size #[.int .u32 0, .int .u32 0, .int .u32 0, .int .u32 0, .int .u32 0, .int .u32 0, .int .u32 0, .int .u32 0, .int .u32 0, .int .u32 0, .int .u32 0, .int .u32 0, .int .u32 0, .int .u32 0, .int .u32 0, .int .u32 0, .int .u32 0, .int .u32 0, .int .u32 0, .int .u32 0, .int .u32 0, .int .u32 0, .int .u32 0, .int .u32 0, .int .u32 0, .int .u32 0, .int .u32 0, .int .u32 0, .int .u32 0, .int .u32 0, .int .u32 0, .int .u32 0]) g k w.heap.size (w.heap.size + 1) r0 b 0 0 from by rw [← hz]; exact HW3.out.rowQ 0)
  have HWR := Lib.hid (HWQ.out.rowR r0)
  clear hz
  go_wp2_with (first | ((with_reducible refine wpl_load rfl 155 _ rfl _ ?_ HW3.out.a.blk (rowMag _) ?_); exact rfl) | ((with_reducible refine wpl_store rfl 155 _ _ rfl _ #[.int .u32 0, .int .u32 0, .int .u32 0, .int .u32 0, .int .u32 0, .int .u32 0, .int .u32 0, .int .u32 0, .int .u32 0, .int .u32 0, .int .u32 0, .int .u32 0, .int .u32 0, .int .u32 0, .int .u32 0, .int .u32 0, .int .u32 0, .int .u32 0, .int .u32 0, .int .u32 0, .int .u32 0, .int .u32 0, .int .u32 0, .int .u32 0, .int .u32 0, .int .u32 0, .int .u32 0, .int .u32 0, .int .u32 0, .int .u32 0, .int .u32 0, .int .u32 0] ?_ ?_ HB.out rowMagZ ?_ ?_); exact rfl; exact rfl; exact rfl) | ((with_reducible refine wpl_store rfl 155 _ _ rfl _ (limA 32 r0) ?_ ?_ HWQ.out.r.blk (rowMag _) ?_ ?_); exact rfl; exact rfl; exact (by rw [limA_size, limA_size])))
  exact bodyPost_ret (res_cc rfl rfl rfl HWR.out.q.blk (rowMag _) HWR.out.r.blk (rowMag _)) rfl ⟨rfl, HWR.out.below⟩
 ·obtain ⟨c, hc⟩ : ∃ c, cmpN a b = c := ⟨_, rfl⟩
  have hc0 : ¬ (c < 0) := by
   rw [← hc]
   unfold cmpN
   rw [if_neg hab]
   split <;> omega
  rw [hc]
  have HAB := Lib.hid hab
  clear hc hab
  have hn0 : n ≠ 0 := by
   intro h
   subst h
   have h2 := HU.out.1.1
   rw [bp_zero] at h2
   have h3 := HU.out.2.2.2.2
   omega
  by_cases hn1 : n = 1
  ·subst hn1
   have hb1 : b < 4294967296 := HU.out.1.1
   have hlb : lim b 0 = b := by
    unfold lim
    rw [bp_zero, Nat.div_one, Nat.mod_eq_of_lt hb1]
   have HWQ := Lib.hid (HW3.out.rowQ a)
   have cb := HWQ.out.b.cell (show 0 < 32 by omega)
   rw [hlb] at cb
   have hr1 : r0 < 4294967296 := by
    rw [← HR.out.2]
    exact Nat.lt_trans (Nat.mod_lt _ (by have := HU.out.2.2.2.2; omega)) hb1
   have hset : setM 0 0 r0 = r0 := by simp [setM, bp]
   have gs := short_any HWQ.out.q HU.out.2.2.1 (show 0 < b by have := HU.out.2.2.2.2; omega) hb1
   rw [HR.out.1, HR.out.2] at gs
   clear hlb HR HU hn0
   go_wp2_with (first | ((with_reducible refine wpl_load rfl 155 _ rfl _ ?_ HW3.out.a.blk (rowMag _) ?_); exact rfl) | ((with_reducible refine wpl_store rfl 155 _ _ rfl _ (limA 32 a) ?_ ?_ HW3.out.q.blk (rowMag _) ?_ ?_); exact rfl; exact rfl; exact (by rw [limA_size, limA_size])))
   refine gs.mono ?_
   rintro e5 w5 ⟨rfl, hq5, ho5⟩
   have HW5 := Lib.hid (HWQ.out.own ho5 hq5)
   have cs5 := HW5.out.r.cell (show 0 < 32 by omega)
   have fz5 := BlkAt.fz HW5.out.r 0
   have HW6 := Lib.hid (HW5.out.setR (i := 0) hr1)
   rw [hset] at HW6
   clear hq5 ho5 gs HWQ HW3
   go_upto_region 7 with (fail)
   have hpl : Tryz.prog.follows .mixedOrders = true := by kernel_rfl
   refine wp_region_mid hpl 51 2 (fun l mm W => ∃ s51 s52 : Value, mm = [s51, s52] ∧ (l.getD 0 false = true → s51 = .agg (limA 32 q0)) ∧ (l.getD 1 false = true → s52 = .agg (limA 32 r0)) ∧ (l.getD 2 false = true → True) ∧ (l.getD 3 false = true → True) ∧ DivW w W g k w.heap.size (w.heap.size + 1) a b q0 r0) (by kernel_rfl) rfl ?_ ?_ ?_
   ·exact ⟨_, _, rfl, fun h => absurd h (by decide), fun h => absurd h (by decide), fun h => absurd h (by decide), fun h => absurd h (by decide), (HW6.out.next (Below.refl _ _).drew)⟩
   ·rintro listed mm W ii hi ⟨s51, s52, rfl, h0, h1, h2, h3, hI⟩ hd
    have hc : ii = 0 ∨ ii = 1 ∨ ii = 2 ∨ ii = 3 := by
     have hi2 : ii < 4 := hi
     omega
    clear hi
    rcases hc with rfl | rfl | rfl | rfl
    ·have HH := Lib.hid (And.intro trivial hI)
     refine wpOp_open rfl rfl (fun K hK => ?_)
     simp only [List.take_succ_cons, List.take_zero, List.drop_succ_cons, List.drop_zero, z7, z8]
     refine wp_load_blk 155 _ rfl w.heap.size rfl HH.out.2.q.blk (rowMag _) ?_
     exact hK _ _ ⟨_, rfl, _, _, rfl, fun _ => rfl, listed_keep (by decide) h1, listed_keep (by decide) h2, listed_keep (by decide) h3, HH.out.2⟩
    ·have HH := Lib.hid (And.intro trivial hI)
     refine wpOp_open rfl rfl (fun K hK => ?_)
     simp only [List.take_succ_cons, List.take_zero, List.drop_succ_cons, List.drop_zero, z7, z8]
     refine wp_load_blk 155 _ rfl (w.heap.size + 1) rfl HH.out.2.r.blk (rowMag _) ?_
     exact hK _ _ ⟨_, rfl, _, _, rfl, listed_keep (by decide) h0, fun _ => rfl, listed_keep (by decide) h2, listed_keep (by decide) h3, HH.out.2⟩
    ·have d0 := h0 (hd 0 (by kernel_rfl))
     obtain rfl := d0
     have HH := Lib.hid (And.intro trivial hI)
     refine wpOp_open rfl rfl (fun K hK => ?_)
     simp only [List.take_succ_cons, List.take_zero, List.drop_succ_cons, List.drop_zero, z7, z8]
     refine wp_store_blk 155 _ _ rfl w.heap.size (limA 32 q0) rfl rfl HH.out.2.q.blk (rowMag _) (by simp only [limA_size]) ?_
     exact hK _ _ ⟨_, rfl, _, _, rfl, listed_keep (by decide) h0, listed_keep (by decide) h1, fun _ => trivial, listed_keep (by decide) h3, HH.out.2.rowQ q0⟩
    ·have d1 := h1 (hd 1 (by kernel_rfl))
     obtain rfl := d1
     have HH := Lib.hid (And.intro trivial hI)
     refine wpOp_open rfl rfl (fun K hK => ?_)
     simp only [List.take_succ_cons, List.take_zero, List.drop_succ_cons, List.drop_zero, z7, z8]
     refine wp_store_blk 155 _ _ rfl (w.heap.size + 1) (limA 32 r0) rfl rfl HH.out.2.r.blk (rowMag _) (by simp only [limA_size]) ?_
     exact hK _ _ ⟨_, rfl, _, _, rfl, listed_keep (by decide) h0, listed_keep (by decide) h1, listed_keep (by decide) h2, fun _ => trivial, HH.out.2.rowR r0⟩
   ·rintro listed mm W ⟨s51, s52, rfl, h0, h1, h2, h3, hI⟩ hall
    obtain rfl := h0 (hall 0 (by decide))
    obtain rfl := h1 (hall 1 (by decide))
    have HF2 := Lib.hid (h2 (hall 2 (by decide)))
    have HF3 := Lib.hid (h3 (hall 3 (by decide)))
    have HI0 := Lib.hid hI
    clear hI hall
    simp only [List.take_succ_cons, List.take_zero, List.drop_succ_cons, List.drop_zero, z7, z8]
    go_wp2_with fail
    exact bodyPost_ret (res_cc rfl rfl rfl HI0.out.q.blk (rowMag _) HI0.out.r.blk (rowMag _)) rfl ⟨rfl, HI0.out.below⟩
  ·have hn2 : 2 ≤ n := by omega
   have hnm : n ≤ m := by
    rcases Nat.lt_or_ge m n with h | h
    ·exfalso
     have h1 := HU.out.1.2.resolve_left hn0
     have h2 := HU.out.2.1.1
     have h3 := bp_le (show m ≤ n - 1 by omega)
     have h4 := HAB.out
     omega
    ·exact h
   obtain ⟨s, hs⟩ : ∃ s, 32 - bl (lim b (n - 1)) = s := ⟨_, rfl⟩
   obtain ⟨h32, hvlt, hvge⟩ := shift_div HU.out.1 hn0 hs.symm
   have hult := shift_num HU.out.2.1.1 h32
   have hfst := shift_first HU.out.2.1.1 h32 hvge hnm
   have HS := Lib.hid (And.intro hvlt (And.intro hvge (And.intro hult hfst)))
   have cb := HW3.out.b.cell (show n - 1 < 32 by omega)
   have hx1 := lim_lt b (n - 1)
   obtain ⟨x, hx⟩ : ∃ x, lim b (n - 1) = x := ⟨_, rfl⟩
   rw [hx] at hs cb hx1
   have gl := fun w => Tryz.bits_LeadingZeros32 (x : Int) w (by omega) (by omega)
   have hbx : bl x ≤ 32 := bl_le_of hx1
   rw [Int.toNat_natCast, len32 hx1, show (32 : Int) - ((bl x : Nat) : Int) = (s : Int) by omega] at gl
   obtain ⟨n1, hn1'⟩ : ∃ k, n - 1 = k := ⟨_, rfl⟩
   have e1 : (n : Int) - 1 = (n1 : Int) := by omega
   rw [hn1'] at cb
   have i0 : (0 : Int) ≤ (n1 : Int) := by omega
   have i1 : (n1 : Int) < 32 := by omega
   have hn1i : ¬ ((n : Int) = 1) := by omega
   clear hs hx hvlt hvge hult hfst hx1 hbx hn0
   go_wp2_with fail
   refine (gl _).mono ?_
   rintro e4 w4 ⟨rfl, rfl⟩
   have hbl4 := bal (bal0 w4 (.cells #[.int .u32 0, .int .u32 0, .int .u32 0, .int .u32 0, .int .u32 0, .int .u32 0, .int .u32 0, .int .u32 0, .int .u32 0, .int .u32 0, .int .u32 0, .int .u32 0, .int .u32 0, .int .u32 0, .int .u32 0, .int .u32 0, .int .u32 0, .int .u32 0, .int .u32 0, .int .u32 0, .int .u32 0, .int .u32 0, .int .u32 0, .int .u32 0, .int .u32 0, .int .u32 0, .int .u32 0, .int .u32 0, .int .u32 0, .int .u32 0, .int .u32 0, .int .u32 0, .int .u32 0] 233)) (.cells #[.int .u32 0, .int .u32 0, .int .u32 0, .int .u32 0, .int .u32 0, .int .u32 0, .int .u32 0, .int .u32 0, .int .u32 0, .int .u32 0, .int .u32 0, .int .u32 0, .int .u32 0, .int .u32 0, .int .u32 0, .int .u32 0, .int .u32 0, .int .u32 0, .int .u32 0, .int .u32 0, .int .u32 0, .int .u32 0, .int .u32 0, .int .u32 0, .int .u32 0, .int .u32 0, .int .u32 0, .int .u32 0, .int .u32 0, .int .u32 0, .int .u32 0, .int .u32 0] 155)
   have hR4 : w.heap.size + 1 < w4.heap.size := BlkAt.lt HW3.out.r
   have HU5 := Lib.hid (show DivU w ((w4.alloc (.cells #[.int .u32 0, .int .u32 0, .int .u32 0, .int .u32 0, .int .u32 0, .int .u32 0, .int .u32 0, .int .u32 0, .int .u32 0, .int .u32 0, .int .u32 0, .int .u32 0, .int .u32 0, .int .u32 0, .int .u32 0, .int .u32 0, .int .u32 0, .int .u32 0, .int .u32 0, .int .u32 0, .int .u32 0, .int .u32 0, .int .u32 0, .int .u32 0, .int .u32 0, .int .u32 0, .int .u32 0, .int .u32 0, .int .u32 0, .int .u32 0, .int .u32 0, .int .u32 0, .int .u32 0] 233)).alloc (.cells #[.int .u32 0, .int .u32 0, .int .u32 0, .int .u32 0, .int .u32 0, .int .u32 0, .int .u32 0, .int .u32 0, .int .u32 0, .int .u32 0, .int .u32 0, .int .u32 0, .int .u32 0, .int .u32 0, .int .u32 0, .int .u32 0, .int .u32 0, .int .u32 0, .int .u32 0, .int .u32 0, .int .u32 0, .int .u32 0, .int .u32 0, .int .u32 0, .int .u32 0, .int .u32 0, .int .u32 0, .int .u32 0, .int .u32 0, .int .u32 0, .int .u32 0, .int .u32 0] 155)) g k w.heap.size (w.heap.size + 1) w4.heap.size (w4.heap.size + 1) a b 0 0 0 0 from
    ⟨HW3.out.next hbl4, BlkAt.is ((BlkAt.new _ _ _).al _) big33Z.symm, MagAt.zero (BlkAt.newAt _ _ _ (by simp)), hR4, by omega⟩)
   clear hbl4 hR4 HW3 cb gl
   go_upto_region 11 with (fail)
   generalize (w4.alloc _).alloc _ = w5 at *
   generalize w4.heap.size + 1 = V at *
   generalize w4.heap.size = U at *
   generalize w.heap.size + 1 = R at *
   generalize hQ : w.heap.size = Q at *
   obtain ⟨vv, hvv⟩ : ∃ v, b * 2 ^ s = v := ⟨_, rfl⟩
   rw [hvv] at HS
   go_wp2_with fail
   go_loopw [11] (fun iv wr => ∃ i : Nat, i ≤ n ∧ iv = .int .i64 ((i : Int) - 1) ∧ DivU w wr g k Q R U V a b 0 0 0 (vv / bp i * bp i)) (fun iv _ => (intOf iv + 1).toNat)
   case atStart => exact ⟨n, by omega, by go_num, by rw [Nat.div_eq_of_lt HS.out.1, Nat.zero_mul]; exact HU5.out⟩
   case round =>
    obtain ⟨i, hi, rfl, hW⟩ := hrel
    have HWi := Lib.hid hW
    clear hW HU5
    cases i with
    | zero =>
     rw [bp_zero, Nat.div_one, Nat.mul_one] at HWi
     rw [show ((0 : Nat) : Int) - 1 = -1 by rfl]
     obtain ⟨uu, huu⟩ : ∃ v, a * 2 ^ s = v := ⟨_, rfl⟩
     rw [huu] at HS
     go_wp2_with fail
     go_loopw [12] (fun iv wr => ∃ i : Nat, i ≤ m + 1 ∧ iv = .int .i64 ((i : Int) - 1) ∧ DivU w wr g k Q R U V a b 0 0 (uu / bp i * bp i) vv) (fun iv _ => (intOf iv + 1).toNat)
     case atStart => exact ⟨m + 1, by omega, by go_num, by rw [Nat.div_eq_of_lt HS.out.2.2.1, Nat.zero_mul]; exact HWi.out⟩
     case round =>
      obtain ⟨i, hi2, rfl, hW⟩ := hrel
      have HWj := Lib.hid hW
      clear hW HWi hi
      cases i with
      | zero =>
       rw [bp_zero, Nat.div_one, Nat.mul_one] at HWj
       rw [show ((0 : Nat) : Int) - 1 = -1 by rfl]
       have HS2 := Lib.hid huu
       clear huu
       obtain ⟨h1, hh1⟩ : ∃ x, lim vv (n - 1) = x := ⟨_, rfl⟩
       obtain ⟨h2, hh2⟩ : ∃ x, lim vv (n - 2) = x := ⟨_, rfl⟩
       obtain ⟨n2, hn2'⟩ : ∃ x, n - 2 = x := ⟨_, rfl⟩
       have c1 := HWj.out.v.cell (show n - 1 < 32 by omega)
       have c2 := HWj.out.v.cell (show n - 2 < 32 by omega)
       rw [hh1, hn1'] at c1
       rw [hh2, hn2'] at c2
       have b1 : h1 < 4294967296 := by rw [← hh1]; exact lim_lt _ _
       have b2 : h2 < 4294967296 := by rw [← hh2]; exact lim_lt _ _
       have w1 : IntKind.u64.wrap (h1 : Int) = (h1 : Int) := wrap64 (by omega)
       have w2 : IntKind.u64.wrap (h2 : Int) = (h2 : Int) := wrap64 (by omega)
       have e2 : (n : Int) - 2 = (n2 : Int) := by omega
       have wn1 : IntKind.i64.wrap (n1 : Int) = (n1 : Int) := IntWalk.i64_in _ (by omega)
       have wn2 : IntKind.i64.wrap (n2 : Int) = (n2 : Int) := IntWalk.i64_in _ (by omega)
       have n20 : (0 : Int) ≤ (n2 : Int) := by omega
       have n21 : (n2 : Int) < 32 := by omega
       have HH := Lib.hid (And.intro hh1 hh2)
       clear hh1 hh2
       go_upto_region 24 with (fail)
       go_quiet (fail)
       clear c1 c2 w1 w2
       have HW6 := Lib.hid (HWj.out.next (bdn wr nq))
       clear HWj
       generalize wr.drewN nq = w6 at *
       go_wp2_with fail
       go_loopw [15] (fun iv wr => ∃ j qq u : Nat, j ≤ m - n + 1 ∧ iv = .int .i64 ((j : Int) - 1) ∧ uu = qq * vv + u ∧ u < vv * bp j ∧ qq % bp j = 0 ∧ DivU w wr g k Q R U V a b qq 0 u vv) (fun iv _ => (intOf iv + 1).toNat)
       case atStart => exact ⟨m - n + 1, 0, uu, Nat.le_refl _, congrArg (Value.int .i64) (by omega), by omega, HS.out.2.2.2, Nat.zero_mod _, HW6.out⟩
       case round =>
        obtain ⟨j, qq, u, hj, rfl, h1e, h2e, h3e, hW⟩ := hrel
        have HE := Lib.hid (And.intro h1e (And.intro h2e h3e))
        have HWj := Lib.hid hW
        clear hW HW6 h1e h2e h3e
        cases j with
        | zero =>
         rw [show ((0 : Nat) : Int) - 1 = -1 by rfl]
         have hsd := shift_done (q := qq) (u := u) (show 0 < b by omega) (by rw [HS2.out, hvv]; exact HE.out.1) (by rw [hvv]; have := HE.out.2.1; rwa [bp_zero, Nat.mul_one] at this)
         rw [HR.out.1, HR.out.2] at hsd
         obtain ⟨rfl, hu0⟩ := hsd
         have hrn : r0 < bp n := by
          rw [← HR.out.2]
          exact Nat.lt_trans (Nat.mod_lt _ (by omega)) HU.out.1.1
         have HU0 := Lib.hid hu0
         clear hu0 HE
         go_wp2_with fail
         go_loopw [281] (fun iv wr => ∃ i : Nat, i ≤ n ∧ iv = .int .i64 i ∧ DivU w wr g k Q R U V a b qq (r0 % bp i) u vv) (fun iv _ => n - (intOf iv).toNat)
         case atStart => exact ⟨0, by omega, rfl, by rw [bp_zero, Nat.mod_one]; exact HWj.out⟩
         case round =>
          obtain ⟨i, hi, rfl, hW⟩ := hrel
          have HWi := Lib.hid hW
          clear hW HWj
          by_cases hin : i < n
          ·obtain ⟨x, hx⟩ : ∃ x, lim u i = x := ⟨_, rfl⟩
           have hx1 : x < 4294967296 := by rw [← hx]; exact lim_lt _ _
           obtain ⟨p, hp⟩ : ∃ p, x / 2 ^ s = p := ⟨_, rfl⟩
           have hp1 : p < 4294967296 := by rw [← hp]; exact Nat.lt_of_le_of_lt (Nat.div_le_self _ _) hx1
           have m1 : (x : Int) / 2 ^ s = (p : Int) := by rw [← hp]; exact shr_cast x s
           have c1 := HWi.out.u.cell (show i < 33 by omega)
           rw [hx] at c1
           have c2 := HWi.out.d.r.cell (show i < 32 by omega)
           have f2 := BlkAt.fz HWi.out.d.r i
           have i0 : (0 : Int) ≤ (i : Int) := by omega
           have i1 : (i : Int) < 32 := by omega
           have i33 : (i : Int) < 33 := by omega
           have HWp := Lib.hid (HWi.out.setR (i := i) hp1)
           have hstep : setM (r0 % bp i) i (lim r0 i) = r0 % bp (i + 1) := by
            rw [setM_new (Nat.mod_lt _ (bp_pos i)), mod_succ]
           by_cases h0s : 0 < s
           ·obtain ⟨e, he⟩ : ∃ e, 32 - s = e := ⟨_, rfl⟩
            obtain ⟨y, hy⟩ : ∃ y, lim u (i + 1) = y := ⟨_, rfl⟩
            obtain ⟨q, hq⟩ : ∃ q, y * 2 ^ e % 4294967296 = q := ⟨_, rfl⟩
            obtain ⟨o, ho⟩ : ∃ o, p ||| q = o := ⟨_, rfl⟩
            obtain ⟨k1, hk1⟩ : ∃ k1, i + 1 = k1 := ⟨_, rfl⟩
            have m2 : (32 : Int) - (s : Int) = (e : Int) := by omega
            have m3 : (y : Int) * 2 ^ e % 4294967296 = (q : Int) := by rw [← hq]; exact shl_cast y e
            have m0 : (i : Int) + 1 = (k1 : Int) := by omega
            have mk : IntKind.i64.wrap (k1 : Int) = (k1 : Int) := IntWalk.i64_in _ (by omega)
            have me : IntKind.i64.wrap (e : Int) = (e : Int) := IntWalk.i64_in _ (by omega)
            have k0 : (0 : Int) ≤ (k1 : Int) := by omega
            have k33 : (k1 : Int) < 33 := by omega
            have s0 : (0 : Int) < (s : Int) := by omega
            have hq1 : q < 4294967296 := by omega
            have mo : bits .or .u32 (p : Int) (q : Int) = (o : Int) := by rw [u32_or_nat p q hp1 hq1, ho]
            have hoo : o = lim r0 i := by
             rw [← ho, ← hp, ← hq, ← hy, ← he, ← hx, ← HU0.out]
             exact (lim_shr h0s h32).symm
            have ho1 : o < 4294967296 := by rw [hoo]; exact lim_lt _ _
            go_upto_region 59 with (fail)
            have c3 := HWp.out.u.cell (show k1 < 33 by omega)
            rw [← hk1, hy, hk1] at c3
            have c4 := HWp.out.d.r.cell (show i < 32 by omega)
            have f4 := BlkAt.fz HWp.out.d.r i
            rw [lim_set hp1, if_pos rfl] at c4
            clear c1 c2 f2 HWi
            generalize wr.setCell _ _ = wp at *
            have HWo := Lib.hid (HWp.out.setR (i := i) ho1)
            rw [setM_setM hp1, hoo, hstep, ← hoo] at HWo
            clear hoo hy he hq ho hx hp hq1 HWp hk1 hstep
            go_region_law (first | fail)
            all_goals
             go_wp2_with fail
             go_roundw
             case rel =>
              try simp only [m3, mo]
              exact ⟨i + 1, by omega, by go_num, HWo.out.next (Below.refl _ _).drew⟩
             case measure => simp [intOf]; omega
           ·have hs0 : s = 0 := by omega
            have hoo : p = lim r0 i := by rw [← hp, ← hx, ← HU0.out, hs0, Nat.pow_zero, Nat.div_one, Nat.div_one]
            rw [hoo, hstep, ← hoo, show p = x by rw [← hp, hs0, Nat.pow_zero, Nat.div_one]] at HWp
            have s0 : ¬ (0 : Int) < (s : Int) := by omega
            clear hoo hp hx hstep
            go_wp2_with fail
            go_roundw
            case rel => exact ⟨i + 1, by omega, by go_num, HWp.out⟩
            case measure => simp [intOf]; omega
          ·obtain rfl : n = i := by omega
           rw [Nat.mod_eq_of_lt hrn] at HWi
           go_upto_region 61 with (fail)
           have hpl : Tryz.prog.follows .mixedOrders = true := by kernel_rfl
           refine wp_region_mid hpl 306 2 (fun l mm W => ∃ s306 s307 : Value, mm = [s306, s307] ∧ (l.getD 0 false = true → s306 = .agg (limA 32 qq)) ∧ (l.getD 1 false = true → s307 = .agg (limA 32 r0)) ∧ (l.getD 2 false = true → True) ∧ (l.getD 3 false = true → True) ∧ DivW w W g k Q R a b qq r0) (by kernel_rfl) rfl ?_ ?_ ?_
           ·exact ⟨_, _, rfl, fun h => absurd h (by decide), fun h => absurd h (by decide), fun h => absurd h (by decide), fun h => absurd h (by decide), (HWi.out.d.next (Below.refl _ _).drew)⟩
           ·rintro listed mm W ii hi ⟨s306, s307, rfl, h0, h1, h2, h3, hI⟩ hd
            have hc : ii = 0 ∨ ii = 1 ∨ ii = 2 ∨ ii = 3 := by
             have hi2 : ii < 4 := hi
             omega
            clear hi
            rcases hc with rfl | rfl | rfl | rfl
            ·have HH := Lib.hid (And.intro trivial hI)
             refine wpOp_open rfl rfl (fun K hK => ?_)
             simp only [List.take_succ_cons, List.take_zero, List.drop_succ_cons, List.drop_zero, z7, z8]
             refine wp_load_blk 155 _ rfl Q rfl HH.out.2.q.blk (rowMag _) ?_
             exact hK _ _ ⟨_, rfl, _, _, rfl, fun _ => rfl, listed_keep (by decide) h1, listed_keep (by decide) h2, listed_keep (by decide) h3, HH.out.2⟩
            ·have HH := Lib.hid (And.intro trivial hI)
             refine wpOp_open rfl rfl (fun K hK => ?_)
             simp only [List.take_succ_cons, List.take_zero, List.drop_succ_cons, List.drop_zero, z7, z8]
             refine wp_load_blk 155 _ rfl R rfl HH.out.2.r.blk (rowMag _) ?_
             exact hK _ _ ⟨_, rfl, _, _, rfl, listed_keep (by decide) h0, fun _ => rfl, listed_keep (by decide) h2, listed_keep (by decide) h3, HH.out.2⟩
            ·have d0 := h0 (hd 0 (by kernel_rfl))
             obtain rfl := d0
             have HH := Lib.hid (And.intro trivial hI)
             refine wpOp_open rfl rfl (fun K hK => ?_)
             simp only [List.take_succ_cons, List.take_zero, List.drop_succ_cons, List.drop_zero, z7, z8]
             refine wp_store_blk 155 _ _ rfl Q (limA 32 qq) rfl rfl HH.out.2.q.blk (rowMag _) (by simp only [limA_size]) ?_
             exact hK _ _ ⟨_, rfl, _, _, rfl, listed_keep (by decide) h0, listed_keep (by decide) h1, fun _ => trivial, listed_keep (by decide) h3, HH.out.2.rowQ qq⟩
            ·have d1 := h1 (hd 1 (by kernel_rfl))
             obtain rfl := d1
             have HH := Lib.hid (And.intro trivial hI)
             refine wpOp_open rfl rfl (fun K hK => ?_)
             simp only [List.take_succ_cons, List.take_zero, List.drop_succ_cons, List.drop_zero, z7, z8]
             refine wp_store_blk 155 _ _ rfl R (limA 32 r0) rfl rfl HH.out.2.r.blk (rowMag _) (by simp only [limA_size]) ?_
             exact hK _ _ ⟨_, rfl, _, _, rfl, listed_keep (by decide) h0, listed_keep (by decide) h1, listed_keep (by decide) h2, fun _ => trivial, HH.out.2.rowR r0⟩
           ·rintro listed mm W ⟨s306, s307, rfl, h0, h1, h2, h3, hI⟩ hall
            obtain rfl := h0 (hall 0 (by decide))
            obtain rfl := h1 (hall 1 (by decide))
            have HF2 := Lib.hid (h2 (hall 2 (by decide)))
            have HF3 := Lib.hid (h3 (hall 3 (by decide)))
            have HI0 := Lib.hid hI
            clear hI hall
            simp only [List.take_succ_cons, List.take_zero, List.drop_succ_cons, List.drop_zero, z7, z8]
            go_wp2_with fail
            exact bodyPost_ret (res_cc rfl rfl rfl HI0.out.q.blk (rowMag _) HI0.out.r.blk (rowMag _)) rfl ⟨rfl, HI0.out.below⟩
        | succ j =>
         have e1 : ((j + 1 : Nat) : Int) - 1 = (j : Int) := by omega
         rw [e1]
         have hvp : 0 < vv := by
          have h1 := HS.out.2.1
          have h2 := bp_pos n
          omega
         obtain ⟨l1, l2, l3⟩ := div_limb hvp HE.out.1 HE.out.2.1
         obtain ⟨T, hT⟩ : ∃ T, u / bp j = T := ⟨_, rfl⟩
         obtain ⟨lo, hlo⟩ : ∃ l, u % bp j = l := ⟨_, rfl⟩
         have hloj : lo < bp j := by rw [← hlo]; exact Nat.mod_lt _ (bp_pos j)
         have huc : u = T * bp j + lo := by rw [← hT, ← hlo]; exact comb_self u j
         rw [hT] at l1
         rw [hT, hlo] at l2 l3
         have D1 := Lib.hid (show Div1 T vv n from ⟨hn2, HS.out.1, HS.out.2.1, l1⟩)
         have HJ := Lib.hid (And.intro l2 (And.intro l3 (And.intro hloj HE.out.2.2)))
         rw [huc] at HWj
         clear l1 l2 l3 hT hlo huc HE
         obtain ⟨t0, ht0⟩ : ∃ x, lim T n = x := ⟨_, rfl⟩
         obtain ⟨t1, ht1⟩ : ∃ x, lim T (n - 1) = x := ⟨_, rfl⟩
         obtain ⟨t2, ht2⟩ : ∃ x, lim T (n - 2) = x := ⟨_, rfl⟩
         have d0 := HWj.out.u.cell (show j + n < 33 by omega)
         have d1 := HWj.out.u.cell (show j + (n - 1) < 33 by omega)
         rw [comb_lim hloj, ht0] at d0
         rw [comb_lim hloj, ht1, hn1'] at d1
         have dt0 : t0 < 4294967296 := by rw [← ht0]; exact lim_lt _ _
         have dt1 : t1 < 4294967296 := by rw [← ht1]; exact lim_lt _ _
         have dt2 : t2 < 4294967296 := by rw [← ht2]; exact lim_lt _ _
         obtain ⟨jn, hjn⟩ : ∃ x, j + n = x := ⟨_, rfl⟩
         obtain ⟨jn1, hjn1⟩ : ∃ x, j + n1 = x := ⟨_, rfl⟩
         rw [hjn] at d0
         rw [hjn1] at d1
         have m0 : IntKind.i64.wrap ((j : Int) + (n : Int)) = (jn : Int) := by rw [show (j : Int) + (n : Int) = (jn : Int) by omega]; exact IntWalk.i64_in _ (by omega)
         have m1 : IntKind.i64.wrap ((jn : Int) - 1) = (jn1 : Int) := by rw [show (jn : Int) - 1 = (jn1 : Int) by omega]; exact IntWalk.i64_in _ (by omega)
         have w0 : IntKind.u64.wrap (t0 : Int) = (t0 : Int) := wrap64 (by omega)
         have w1 : IntKind.u64.wrap (t1 : Int) = (t1 : Int) := wrap64 (by omega)
         have jn0 : (0 : Int) ≤ (jn : Int) := by omega
         have jn2 : (jn : Int) < 33 := by omega
         have jn3 : (0 : Int) ≤ (jn1 : Int) := by omega
         have jn4 : (jn1 : Int) < 33 := by omega
         have HT := Lib.hid (And.intro ht0 (And.intro ht1 ht2))
         clear ht0 ht1 ht2
         obtain ⟨X, hX⟩ : ∃ x, t0 * 4294967296 + t1 = x := ⟨_, rfl⟩
         have mX : bits .or .u64 ((t0 : Int) * 4294967296) (t1 : Int) = (X : Int) := by rw [or64 dt0 dt1, hX]
         have hhf : 2147483648 ≤ h1 := by
          have := D1.out.half
          rw [HH.out.1] at this
          exact this
         have h10 : (h1 : Int) ≠ 0 := by omega
         obtain ⟨gg, hgg⟩ : ∃ x, X / h1 = x := ⟨_, rfl⟩
         obtain ⟨rr, hrr⟩ : ∃ x, X % h1 = x := ⟨_, rfl⟩
         have mq : (X : Int).tdiv (h1 : Int) = (gg : Int) := by rw [← Int.ofNat_tdiv, hgg]
         have mr : (X : Int).tmod (h1 : Int) = (rr : Int) := by rw [← Int.ofNat_tmod, hrr]
         have hE := Est.start D1.out
         rw [HT.out.1, HT.out.2.1, HH.out.1, hX, hgg, hrr] at hE
         have wX : X < 18446744073709551616 := by omega
         have wg : gg < 18446744073709551616 := by rw [← hgg]; exact Nat.lt_of_le_of_lt (Nat.div_le_self _ _) wX
         have wr2 : rr < 4294967296 := by
          have := Nat.mod_lt X (show 0 < h1 by omega)
          omega
         have wgg : IntKind.u64.wrap (gg : Int) = (gg : Int) := wrap64 wg
         have wrr : IntKind.u64.wrap (rr : Int) = (rr : Int) := wrap64 (by omega)
         have HEst := Lib.hid hE
         clear hE hgg hrr hX
         go_upto_region 28 with (fail)
         go_quiet (fail)
         have HW7 := Lib.hid (HWj.out.next (bdn wr nq))
         clear HWj d0 d1
         generalize wr.drewN nq = w7 at *
         go_upto_region 29 with (fail)
         go_quiet (fail)
         have HW8 := Lib.hid (HW7.out.next (bdn w7 nq))
         clear HW7
         generalize w7.drewN nq = w8 at *
         clear w0 w1 wgg wrr mq mr mX h10 m0 m1
         go_upto_block 7 with (fail)
         go_cut [17, 18] from 145 to 279 (fun gv rv wc => ∃ g1 : Nat, gv = .int .u64 g1 ∧ g1 < 4294967296 ∧ T / vv ≤ g1 ∧ g1 ≤ T / vv + 1 ∧ DivU w wc g k Q R U V a b qq 0 (T * bp j + lo) vv)
         case first =>
          obtain ⟨jm, hjm⟩ : ∃ x, j + n2 = x := ⟨_, rfl⟩
          have m0 : IntKind.i64.wrap ((j : Int) + (n : Int)) = (jn : Int) := by rw [show (j : Int) + (n : Int) = (jn : Int) by omega]; exact IntWalk.i64_in _ (by omega)
          have m1 : IntKind.i64.wrap ((jn : Int) - 2) = (jm : Int) := by rw [show (jn : Int) - 2 = (jm : Int) by omega]; exact IntWalk.i64_in _ (by omega)
          have w2 : IntKind.u64.wrap (t2 : Int) = (t2 : Int) := wrap64 (by omega)
          have jm0 : (0 : Int) ≤ (jm : Int) := by omega
          have jm1 : (jm : Int) < 33 := by omega
          go_wp2_with fail
          go_loopw [17, 18] (fun gv rv wr => ∃ g1 r1 : Nat, gv = .int .u64 g1 ∧ rv = .int .u64 r1 ∧ r1 < 4294967296 ∧ Est T vv n g1 r1 ∧ DivU w wr g k Q R U V a b qq 0 (T * bp j + lo) vv) (fun gv _ _ => (intOf gv).toNat)
          case atStart => exact ⟨gg, rr, rfl, rfl, wr2, HEst.out, HW8.out⟩
          case round =>
           as_aux_lemma =>
            clear HEst wr2 wX
            obtain ⟨g1, r1, rfl, rfl, hr1, hE1, hW1⟩ := hrel
            have HE1 := Lib.hid hE1
            have HW1 := Lib.hid hW1
            clear hE1 hW1 HW8
            have hmost := Est.most D1.out HE1.out
            have d2 := HW1.out.u.cell (show jm < 33 by omega)
            rw [show jm = j + (n - 2) by omega, comb_lim hloj, HT.out.2.2, show j + (n - 2) = jm by omega] at d2
            have hdn := Est.down D1.out HE1.out
            have hsm := fun r (e : Est T vv n (g1 - 1) r) => Est.small D1.out e
            have hdo := Est.done D1.out HE1.out
            rw [HH.out.2, HT.out.2.2] at hdn hdo
            rw [HH.out.1] at hdn
            have hdo2 := fun (e : Est T vv n (g1 - 1) (r1 + h1)) => Est.done D1.out e
            rw [HH.out.2, HT.out.2.2] at hdo2
            obtain ⟨Y, hY⟩ : ∃ y, r1 * 4294967296 + t2 = y := ⟨_, rfl⟩
            have mY : bits .or .u64 ((r1 : Int) * 4294967296) (t2 : Int) = (Y : Int) := by rw [or64 hr1 dt2, hY]
            rw [hY] at hdn hdo
            have wr1 : IntKind.u64.wrap ((r1 : Int) + (h1 : Int)) = ((r1 + h1 : Nat) : Int) := by
             rw [show (r1 : Int) + (h1 : Int) = ((r1 + h1 : Nat) : Int) by omega]
             exact wrap64 (by omega)
            have HDN := Lib.hid (And.intro hdn (And.intro hsm (And.intro hdo hdo2)))
            clear hdn hsm hdo hdo2
            have hle0 := HE1.out.le
            clear HE1
            obtain ⟨g2, hg2⟩ : ∃ x, g1 - 1 = x := ⟨_, rfl⟩
            obtain ⟨r2, hr2⟩ : ∃ x, r1 + h1 = x := ⟨_, rfl⟩
            rw [hg2, hr2] at HDN
            rw [hr2] at wr1
            by_cases hbig : 4294967296 ≤ g1
            ·obtain ⟨hg1, hE'⟩ := HDN.out.1 (.inl hbig)
             have HE2 := Lib.hid hE'
             have wg1 : IntKind.u64.wrap ((g1 : Int) - 1) = (g2 : Int) := by rw [show (g1 : Int) - 1 = ((g2 : Nat) : Int) by omega]; exact wrap64 (by omega)
             clear hE'
             by_cases hbrk : 4294967296 ≤ r2
             ·have hs := HDN.out.2.1 r2 HE2.out hbrk
              have hd := HDN.out.2.2.2 HE2.out hs (by
               have h1 := Nat.mul_le_mul (show g2 ≤ 4294967296 by omega) (show h2 ≤ 4294967296 by omega)
               omega)
              have hle := HE2.out.le
              clear HDN
              go_wp2_with fail
              go_meet
              exact ⟨g2, rfl, hs, hle, hd, HW1.out⟩
             ·clear HDN
              go_wp2_with fail
              go_roundw
              case rel => exact ⟨g2, r2, rfl, rfl, by omega, HE2.out, HW1.out⟩
              case measure => simp [intOf]; omega
            ·have hg32 : g1 < 4294967296 := by omega
             obtain ⟨p1, hp1⟩ : ∃ p, g1 * h2 = p := ⟨_, rfl⟩
             have mp : IntKind.u64.wrap ((g1 : Int) * (h2 : Int)) = (p1 : Int) := by
              rw [show (g1 : Int) * (h2 : Int) = ((p1 : Nat) : Int) by rw [← hp1]; exact (Int.natCast_mul g1 h2).symm]
              refine wrap64 ?_
              rw [← hp1]
              exact Nat.lt_of_lt_of_le (Nat.mul_lt_mul_of_lt_of_lt hg32 b2) (by decide)
             by_cases hcmp : Y < p1
             ·obtain ⟨hg1, hE'⟩ := HDN.out.1 (.inr (by rw [hp1]; exact hcmp))
              have HE2 := Lib.hid hE'
              have wg1 : IntKind.u64.wrap ((g1 : Int) - 1) = (g2 : Int) := by rw [show (g1 : Int) - 1 = ((g2 : Nat) : Int) by omega]; exact wrap64 (by omega)
              clear hE'
              by_cases hbrk : 4294967296 ≤ r2
              ·have hs := HDN.out.2.1 r2 HE2.out hbrk
               have hd := HDN.out.2.2.2 HE2.out hs (by
                have h1 := Nat.mul_le_mul (show g2 ≤ 4294967296 by omega) (show h2 ≤ 4294967296 by omega)
                omega)
               have hle := HE2.out.le
               clear HDN
               go_wp2_with fail
               go_meet
               exact ⟨g2, rfl, hs, hle, hd, HW1.out⟩
              ·clear HDN
               go_wp2_with fail
               go_roundw
               case rel => exact ⟨g2, r2, rfl, rfl, by omega, HE2.out, HW1.out⟩
               case measure => simp [intOf]; omega
             ·have hle := HDN.out.2.2.1 hg32 (by rw [hp1]; omega)
              clear HDN
              go_wp2_with fail
              go_meet
              exact ⟨g1, rfl, hg32, hle0, hle, HW1.out⟩
         case rest =>
          obtain ⟨g1, rfl, hg, hgl, hgu, hW⟩ := hcut
          have HWc := Lib.hid hW
          clear hW HW8 HEst wX wg wr2
          go_wp2_with fail
          go_loopw [19, 20, 196] (fun bv kv iv wr => ∃ i b1 k1 t : Nat, i ≤ n ∧ bv = .int .u32 b1 ∧ kv = .int .u64 k1 ∧ iv = .int .i64 i ∧ b1 ≤ 1 ∧ k1 < 4294967296 ∧ t / bp i = T / bp i ∧ t % bp i + g1 * (vv % bp i) = T % bp i + (k1 + b1) * bp i ∧ DivU w wr g k Q R U V a b qq 0 (t * bp j + lo) vv) (fun _ _ iv _ => n - (intOf iv).toNat)
          case atStart => exact ⟨0, 0, 0, T, by omega, rfl, rfl, rfl, by omega, by omega, rfl, by simp [bp_zero, Nat.mod_one], HWc.out⟩
          case round =>
           obtain ⟨i, bo, k1, t, hin, rfl, rfl, rfl, hbo, hk1, ee1, ee2, hW⟩ := hrel
           have HE := Lib.hid (And.intro ee1 ee2)
           have HWt := Lib.hid hW
           clear ee1 ee2 hW HWc
           have hxt : lim t i = lim T i := by unfold lim; rw [HE.out.1]
           by_cases hlt : i < n
           ·skip
            as_aux_lemma =>
             obtain ⟨x, hx⟩ : ∃ x, lim T i = x := ⟨_, rfl⟩
             obtain ⟨y, hy⟩ : ∃ y, lim vv i = y := ⟨_, rfl⟩
             rw [hx] at hxt
             have hx1 : x < 4294967296 := by rw [← hx]; exact lim_lt _ _
             have hy1 : y < 4294967296 := by rw [← hy]; exact lim_lt _ _
             obtain ⟨p, hp⟩ : ∃ p, g1 * y = p := ⟨_, rfl⟩
             obtain ⟨sm, hsm⟩ : ∃ s, p + k1 = s := ⟨_, rfl⟩
             have hps : sm < 18446744073709551616 := by
              have := times_lt hg hy1 (show 0 < 4294967296 by omega) hk1
              omega
             obtain ⟨sl, hsl⟩ : ∃ s, sm % 4294967296 = s := ⟨_, rfl⟩
             obtain ⟨sh, hsh⟩ : ∃ s, sm / 4294967296 = s := ⟨_, rfl⟩
             have hsl1 : sl < 4294967296 := by omega
             obtain ⟨d, bo2, hd, hbo2, hdd⟩ := sub_ex x sl bo hx1 hsl1 hbo
             obtain ⟨p1, p2⟩ := off_step (V := vv) (g := g1) HE.out.1 HE.out.2 hd (b' := bo2) (by rw [hy, hp, hsm, hsl, hx]; exact hdd)
             rw [hy, hp, hsm, hsh] at p2
             have HP := Lib.hid (And.intro p1 p2)
             obtain ⟨ij, hij⟩ : ∃ x, j + i = x := ⟨_, rfl⟩
             have c1 := HWt.out.v.cell (show i < 32 by omega)
             rw [hy] at c1
             have c2 := HWt.out.u.cell (show j + i < 33 by omega)
             rw [comb_lim hloj, hxt, hij] at c2
             have f2 := BlkAt.fz HWt.out.u ij
             have HN := Lib.hid (HWt.out.setU (i := j + i) hd)
             rw [comb_set hloj, hij] at HN
             have m0 : IntKind.i64.wrap ((i : Int) + (j : Int)) = (ij : Int) := by rw [show (i : Int) + (j : Int) = (ij : Int) by omega]; exact IntWalk.i64_in _ (by omega)
             have wy : IntKind.u64.wrap (y : Int) = (y : Int) := wrap64 (by omega)
             have mp : IntKind.u64.wrap ((g1 : Int) * (y : Int)) = (p : Int) := by
              rw [show (g1 : Int) * (y : Int) = ((p : Nat) : Int) by rw [← hp]; exact (Int.natCast_mul g1 y).symm]
              exact wrap64 (by omega)
             have ms : IntKind.u64.wrap ((p : Int) + (k1 : Int)) = (sm : Int) := by
              rw [show (p : Int) + (k1 : Int) = ((sm : Nat) : Int) by omega]
              exact wrap64 hps
             have md : (sm : Int) / 4294967296 = (sh : Int) := by omega
             have mm : (sm : Int) % 4294967296 = (sl : Int) := by omega
             have i0 : (0 : Int) ≤ (i : Int) := by omega
             have i1 : (i : Int) < 32 := by omega
             have ij0 : (0 : Int) ≤ (ij : Int) := by omega
             have ij1 : (ij : Int) < 33 := by omega
             clear p1 p2 hx hy hxt
             go_wp2_with fail
             refine (sub32_any x sl bo hx1 hsl1 hbo hd hbo2 hdd _).mono ?_
             rintro e w3 ⟨rfl, rfl⟩
             go_wp2_with fail
             go_roundw
             case rel => exact ⟨i + 1, bo2, sh, setM t i d, by omega, rfl, rfl, by go_num, hbo2, by omega, HP.out.1, HP.out.2, HN.out⟩
             case measure => simp [intOf]; omega
           ·obtain rfl : n = i := by omega
            rw [HT.out.1] at hxt
            obtain ⟨d, bo2, hd, hbo2, hdd⟩ := sub_ex t0 k1 bo dt0 hk1 hbo
            obtain ⟨S1, S2⟩ := off_last (g := g1) D1.out.tb D1.out.vlt HE.out.1 HE.out.2 hd hk1 (b' := bo2) (by rw [HT.out.1]; exact hdd)
            have c2 := HWt.out.u.cell (show j + n < 33 by omega)
            rw [comb_lim hloj, hxt, hjn] at c2
            have f2 := BlkAt.fz HWt.out.u jn
            have HN := Lib.hid (HWt.out.setU (i := j + n) hd)
            rw [comb_set hloj, hjn] at HN
            obtain ⟨S, hS⟩ : ∃ x, setM t n d = x := ⟨_, rfl⟩
            rw [hS] at S1 S2 HN
            have HSS := Lib.hid (And.intro S1 S2)
            have m0 : IntKind.i64.wrap ((j : Int) + (n : Int)) = (jn : Int) := by rw [show (j : Int) + (n : Int) = (jn : Int) by omega]; exact IntWalk.i64_in _ (by omega)
            have mk : (k1 : Int) % 4294967296 = (k1 : Int) := by omega
            clear S1 S2 hS hxt HE
            go_wp2_with fail
            refine (sub32_any t0 k1 bo dt0 hk1 hbo hd hbo2 hdd _).mono ?_
            rintro e w3 ⟨rfl, rfl⟩
            go_upto_region 44 with (fail)
            clear c2 f2 HWt
            generalize wr.setCell _ _ = wz at *
            by_cases hbz : bo2 = 0
            ·subst hbz
             obtain ⟨k1', k2'⟩ := off_ok (g := g1) (t := S) (T := T) hvp hgl (by have := HSS.out.2; omega)
             rw [k2'] at HN
             have hgq : g1 = T / vv := k1'
             as_aux_lemma =>
              clear k1' k2' HSS
              have HQQ := Lib.hid (HN.out.setQ (i := j) (show g1 < 4294967296 by omega))
              obtain ⟨q1, q2⟩ := quo_set (d := g1) HJ.out.2.2.2 (by omega)
              have HRel := Lib.hid (show uu = setM qq j g1 * vv + (T % vv * bp j + lo) ∧ T % vv * bp j + lo < vv * bp j ∧ setM qq j g1 % bp j = 0 from ⟨by rw [q1, hgq]; exact HJ.out.1, HJ.out.2.1, q2⟩)
              have cq := HN.out.d.q.cell (show j < 32 by omega)
              have fq := BlkAt.fz HN.out.d.q j
              have j0 : (0 : Int) ≤ (j : Int) := by omega
              have j1 : (j : Int) < 32 := by omega
              have mg : (g1 : Int) % 4294967296 = (g1 : Int) := by omega
              clear q1 q2 hgq
              go_wp2_with fail
              go_roundw
              case rel => exact ⟨j, _, _, by omega, by go_num, HRel.out.1, HRel.out.2.1, HRel.out.2.2, HQQ.out⟩
              case measure => simp [intOf]
            ·have hb1 : bo2 = 1 := by omega
             rw [hb1, Nat.one_mul] at HSS
             have hb2 : (0 : Int) < (bo2 : Int) := by omega
             clear hb1 hbz
             have hg1 : 1 ≤ g1 := by
              rcases Nat.eq_zero_or_pos g1 with h | h
              ·have h1 := HSS.out.1
               have h2 := HSS.out.2
               rw [h, Nat.zero_mul] at h2
               omega
              ·exact h
             obtain ⟨gq, hgq0⟩ : ∃ x, g1 - 1 = x := ⟨_, rfl⟩
             have wg1 : IntKind.u64.wrap ((g1 : Int) - 1) = (gq : Int) := by rw [show (g1 : Int) - 1 = ((gq : Nat) : Int) by omega]; exact wrap64 (by omega)
             go_wp2_with fail
             have HNb := Lib.hid HN.out
             clear HN
             clear hb2
             try (rename (0 : Int) < (bo2 : Int) => hz; clear hz)
             try (rename 0 < bo2 => hz; clear hz)
             go_loopw [23, 247] (fun cv iv wr => ∃ i c1 t : Nat, i ≤ n ∧ cv = .int .u32 c1 ∧ iv = .int .i64 i ∧ t / bp i = S / bp i ∧ t % bp i + c1 * bp i = S % bp i + vv % bp i ∧ DivU w wr g k Q R U V a b qq 0 (t * bp j + lo) vv) (fun _ iv _ => n - (intOf iv).toNat)
             case atStart => exact ⟨0, 0, S, by omega, rfl, rfl, rfl, by simp [bp_zero, Nat.mod_one], HNb.out⟩
             case round =>
              obtain ⟨i, q, t, hin, rfl, rfl, ee1, ee2, hW⟩ := hrel
              have hq1 := carry_le ee2
              have HE := Lib.hid (And.intro ee1 ee2)
              have HWt := Lib.hid hW
              clear ee1 ee2 hW HNb
              have hxt : lim t i = lim S i := by unfold lim; rw [HE.out.1]
              by_cases hlt : i < n
              ·obtain ⟨p1, p2⟩ := back_step HE.out.1 HE.out.2
               obtain ⟨x, hx⟩ : ∃ x, lim S i = x := ⟨_, rfl⟩
               obtain ⟨y, hy⟩ : ∃ y, lim vv i = y := ⟨_, rfl⟩
               rw [hx] at hxt
               have hx1 : x < 4294967296 := by rw [← hx]; exact lim_lt _ _
               have hy1 : y < 4294967296 := by rw [← hy]; exact lim_lt _ _
               rw [hx, hy] at p1 p2
               obtain ⟨d, hd⟩ : ∃ d, (x + y + q) % 4294967296 = d := ⟨_, rfl⟩
               obtain ⟨q', hq'⟩ : ∃ d, (x + y + q) / 4294967296 = d := ⟨_, rfl⟩
               rw [hd] at p1 p2
               rw [hq'] at p2
               have hd1 : d < 4294967296 := by omega
               have ga := fun w => add32_any x y q hx1 hy1 (by omega) hd hq' w
               have HP := Lib.hid (And.intro p1 p2)
               obtain ⟨ij, hij⟩ : ∃ x, j + i = x := ⟨_, rfl⟩
               have c1 := HWt.out.v.cell (show i < 32 by omega)
               rw [hy] at c1
               have c2 := HWt.out.u.cell (show j + i < 33 by omega)
               rw [comb_lim hloj, hxt, hij] at c2
               have f2 := BlkAt.fz HWt.out.u ij
               have m0 : IntKind.i64.wrap ((i : Int) + (j : Int)) = (ij : Int) := by rw [show (i : Int) + (j : Int) = (ij : Int) by omega]; exact IntWalk.i64_in _ (by omega)
               have i0 : (0 : Int) ≤ (i : Int) := by omega
               have i1 : (i : Int) < 32 := by omega
               have ij0 : (0 : Int) ≤ (ij : Int) := by omega
               have ij1 : (ij : Int) < 33 := by omega
               clear p1 p2 hx hy hxt
               go_wp2_with fail
               go_region_law (first | (go_simp; go_at_call 228; refine (ga _).mono ?_; rintro e w3 ⟨rfl, rfl⟩))
               all_goals
                go_simp
                have HN := Lib.hid ((HWt.out.setU (i := j + i) hd1).next (Below.refl _ _).drew)
                rw [comb_set hloj, hij] at HN
                clear c1 c2 f2 ga hd hq'
                go_wp2_with fail
                go_roundw
                case rel => exact ⟨i + 1, q', setM t i d, by omega, rfl, by go_num, HP.out.1, HP.out.2, HN.out⟩
                case measure => simp [intOf]; omega
              ·obtain rfl : n = i := by omega
               as_aux_lemma =>
                obtain ⟨-, k1', k2'⟩ := back_last D1.out HSS.out.1 hgu HSS.out.2 HE.out.1 HE.out.2
                rw [hgq0] at k1'
                obtain ⟨x, hx⟩ : ∃ x, lim S n = x := ⟨_, rfl⟩
                rw [hx] at hxt k2'
                have hx1 : x < 4294967296 := by rw [← hx]; exact lim_lt _ _
                obtain ⟨d, hd⟩ : ∃ d, (x + q) % 4294967296 = d := ⟨_, rfl⟩
                rw [hd] at k2'
                have hd1 : d < 4294967296 := by omega
                have md : ((x : Int) + (q : Int)) % 4294967296 = (d : Int) := by omega
                have c2 := HWt.out.u.cell (show j + n < 33 by omega)
                rw [comb_lim hloj, hxt, hjn] at c2
                have f2 := BlkAt.fz HWt.out.u jn
                have HN := Lib.hid (HWt.out.setU (i := j + n) hd1)
                rw [comb_set hloj, hjn, k2'] at HN
                have hgq : gq = T / vv := k1'
                clear k1' k2' hxt hd HSS HE hx
                go_upto_region 53 with (fail)
                clear c2 f2 HWt
                generalize wr.setCell _ _ = wz at *
                have HQQ := Lib.hid (HN.out.setQ (i := j) (show gq < 4294967296 by omega))
                obtain ⟨q1, q2⟩ := quo_set (d := gq) HJ.out.2.2.2 (by omega)
                have HRel := Lib.hid (show uu = setM qq j gq * vv + (T % vv * bp j + lo) ∧ T % vv * bp j + lo < vv * bp j ∧ setM qq j gq % bp j = 0 from ⟨by rw [q1, hgq]; exact HJ.out.1, HJ.out.2.1, q2⟩)
                have cq := HN.out.d.q.cell (show j < 32 by omega)
                have fq := BlkAt.fz HN.out.d.q j
                have j0 : (0 : Int) ≤ (j : Int) := by omega
                have j1 : (j : Int) < 32 := by omega
                have mg : (gq : Int) % 4294967296 = (gq : Int) := by omega
                clear q1 q2 hgq
                go_wp2_with fail
                go_roundw
                case rel => exact ⟨j, _, _, by omega, by go_num, HRel.out.1, HRel.out.2.1, HRel.out.2.2, HQQ.out⟩
                case measure => simp [intOf]
      | succ i =>
       ·
        have e1 : ((i + 1 : Nat) : Int) - 1 = (i : Int) := by omega
        rw [e1]
        have c2 := HWj.out.u.cell (show i < 33 by omega)
        have f2 := BlkAt.fz HWj.out.u i
        obtain ⟨x, hx⟩ : ∃ x, lim a i = x := ⟨_, rfl⟩
        have hx1 := lim_lt a i
        rw [hx] at hx1
        have i0 : (0 : Int) ≤ (i : Int) := by omega
        have i1 : (i : Int) < 33 := by omega
        obtain ⟨p, hp⟩ : ∃ p, x * 2 ^ s % 4294967296 = p := ⟨_, rfl⟩
        have m1 : (x : Int) * 2 ^ s % 4294967296 = (p : Int) := by rw [← hp]; exact shl_cast x s
        have hp1 : p < 4294967296 := by omega
        rcases Nat.lt_or_ge i m with him | him
        have c1 := HWj.out.d.a.cell (show i < 32 by omega)
        rw [hx] at c1
        have i3 : (i : Int) < 32 := by omega
        have HWp := Lib.hid (HWj.out.setU (i := i) hp1)
        have cc := HWp.out.u.cell (show i < 33 by omega)
        have fc := BlkAt.fz HWp.out.u i
        rw [lim_set hp1, if_pos rfl] at cc
        go_upto_region 22 with (fail)
        clear c1 i3
        generalize wr.setCell _ _ = wp at *
        rotate_left
        have hx0 : x = 0 := by
         rw [← hx]
         exact lim_ge HU.out.2.1.1 him
        have hp0 : p = 0 := by rw [← hp, hx0, Nat.zero_mul, Nat.zero_mod]
        have HWp : Hid (DivU w wr g k Q R U V a b 0 0 (setM (uu / bp (i + 1) * bp (i + 1)) i p) vv) := Lib.hid (by rw [hp0, top_zero]; exact HWj.out)
        have cc := HWp.out.u.cell (show i < 33 by omega)
        have fc := BlkAt.fz HWp.out.u i
        rw [lim_set hp1, if_pos rfl] at cc
        clear c2 f2 hx0 hp0 HWj
        go_upto_region 22 with (fail)
        generalize wr = wp at *
        all_goals
         by_cases hor : 0 < i ∧ 0 < s
         ·obtain ⟨h0i, h0s⟩ := hor
          obtain ⟨j, hj⟩ : ∃ j, i - 1 = j := ⟨i - 1, rfl⟩
          obtain ⟨y, hy⟩ : ∃ y, lim a j = y := ⟨_, rfl⟩
          obtain ⟨e, he⟩ : ∃ e, 32 - s = e := ⟨_, rfl⟩
          obtain ⟨q, hq⟩ : ∃ q, y / 2 ^ e = q := ⟨_, rfl⟩
          obtain ⟨o, ho⟩ : ∃ o, p ||| q = o := ⟨_, rfl⟩
          have m2 : (32 : Int) - (s : Int) = (e : Int) := by omega
          have m3 : (y : Int) / 2 ^ e = (q : Int) := by rw [← hq]; exact shr_cast y e
          have m0 : (i : Int) - 1 = (j : Int) := by omega
          have mj : IntKind.i64.wrap (j : Int) = (j : Int) := IntWalk.i64_in _ (by omega)
          have me : IntKind.i64.wrap (e : Int) = (e : Int) := IntWalk.i64_in _ (by omega)
          have j0 : (0 : Int) ≤ (j : Int) := by omega
          have j1 : (j : Int) < 32 := by omega
          have i2 : (0 : Int) < (i : Int) := by omega
          have s0 : (0 : Int) < (s : Int) := by omega
          have c3 := HWp.out.d.a.cell (show j < 32 by omega)
          rw [hy] at c3
          have hq1 : q < 4294967296 := by
           rw [← hq]
           exact Nat.lt_of_le_of_lt (Nat.div_le_self _ _) (by rw [← hy]; exact lim_lt a j)
          have mo : bits .or .u32 (p : Int) (q : Int) = (o : Int) := by rw [u32_or_nat p q hp1 hq1, ho]
          have hoo : o = lim uu i := by
           rw [← ho, ← hp, ← hq, ← hy, ← he, ← hx, ← huu, show i = j + 1 by omega]
           exact (lim_shl h32).symm
          have ho1 : o < 4294967296 := by rw [hoo]; exact lim_lt uu i
          have HWo := Lib.hid (HWp.out.setU (i := i) ho1)
          rw [setM_setM hp1, hoo, top_step, ← hoo] at HWo
          clear hoo hy he hq ho hx hp hq1 HWp
          go_upto_region 23 with (fail)
          go_region_law (first | fail)
          all_goals
           go_wp2_with fail
           go_roundw
           case rel => exact ⟨i, by omega, by go_num, HWo.out.next (Below.refl _ _).drew⟩
           case measure => simp [intOf] <;> omega
         ·have hoo : p = lim uu i := by
           rw [← hp, ← hx, ← huu]
           by_cases hi0 : i = 0
           ·subst hi0
            exact (lim_shl0 h32).symm
           ·have hs0 : s = 0 := by omega
            subst hs0
            rw [Nat.pow_zero, Nat.mul_one, Nat.mul_one, Nat.mod_eq_of_lt (lim_lt _ _)]
          have HWo := Lib.hid HWp.out
          rw [hoo, top_step] at HWo
          have hcond : ¬ ((0 : Int) < (i : Int) ∧ (0 : Int) < (s : Int)) := by omega
          clear hoo hx hp HWp
          go_wp2_with fail
          all_goals
           go_roundw
           case rel => exact ⟨i, by omega, by go_num, HWo.out⟩
           case measure => simp [intOf] <;> omega
    | succ i =>
     ·
      have e1 : ((i + 1 : Nat) : Int) - 1 = (i : Int) := by omega
      rw [e1]
      have c1 := HWi.out.d.b.cell (show i < 32 by omega)
      have c2 := HWi.out.v.cell (show i < 32 by omega)
      have f2 := BlkAt.fz HWi.out.v i
      obtain ⟨x, hx⟩ : ∃ x, lim b i = x := ⟨_, rfl⟩
      rw [hx] at c1
      have hx1 := lim_lt b i
      rw [hx] at hx1
      have i0 : (0 : Int) ≤ (i : Int) := by omega
      have i1 : (i : Int) < 32 := by omega
      obtain ⟨p, hp⟩ : ∃ p, x * 2 ^ s % 4294967296 = p := ⟨_, rfl⟩
      have m1 : (x : Int) * 2 ^ s % 4294967296 = (p : Int) := by rw [← hp]; exact shl_cast x s
      have hp1 : p < 4294967296 := by omega
      have HWp := Lib.hid (HWi.out.setV (i := i) hp1)
      by_cases hor : 0 < i ∧ 0 < s
      ·obtain ⟨h0i, h0s⟩ := hor
       obtain ⟨j, hj⟩ : ∃ j, i - 1 = j := ⟨i - 1, rfl⟩
       obtain ⟨y, hy⟩ : ∃ y, lim b j = y := ⟨_, rfl⟩
       obtain ⟨e, he⟩ : ∃ e, 32 - s = e := ⟨_, rfl⟩
       obtain ⟨q, hq⟩ : ∃ q, y / 2 ^ e = q := ⟨_, rfl⟩
       obtain ⟨o, ho⟩ : ∃ o, p ||| q = o := ⟨_, rfl⟩
       have m2 : (32 : Int) - (s : Int) = (e : Int) := by omega
       have m3 : (y : Int) / 2 ^ e = (q : Int) := by rw [← hq]; exact shr_cast y e
       have m0 : (i : Int) - 1 = (j : Int) := by omega
       have mj : IntKind.i64.wrap (j : Int) = (j : Int) := IntWalk.i64_in _ (by omega)
       have me : IntKind.i64.wrap (e : Int) = (e : Int) := IntWalk.i64_in _ (by omega)
       have j0 : (0 : Int) ≤ (j : Int) := by omega
       have j1 : (j : Int) < 32 := by omega
       have i2 : (0 : Int) < (i : Int) := by omega
       have s0 : (0 : Int) < (s : Int) := by omega
       have c3 := HWp.out.d.b.cell (show j < 32 by omega)
       rw [hy] at c3
       go_upto_region 16 with (fail)
       have c4 := HWp.out.v.cell (show i < 32 by omega)
       have f4 := BlkAt.fz HWp.out.v i
       rw [lim_set hp1, if_pos rfl] at c4
       clear c1 c2 f2
       generalize wr.setCell _ _ = wp at *
       have hq1 : q < 4294967296 := by
        rw [← hq]
        exact Nat.lt_of_le_of_lt (Nat.div_le_self _ _) (by rw [← hy]; exact lim_lt b j)
       have mo : bits .or .u32 (p : Int) (q : Int) = (o : Int) := by rw [u32_or_nat p q hp1 hq1, ho]
       have hoo : o = lim vv i := by
        rw [← ho, ← hp, ← hq, ← hy, ← he, ← hx, ← hvv, show i = j + 1 by omega]
        exact (lim_shl h32).symm
       have ho1 : o < 4294967296 := by rw [hoo]; exact lim_lt vv i
       have HWo := Lib.hid (HWp.out.setV (i := i) ho1)
       rw [setM_setM hp1, hoo, top_step, ← hoo] at HWo
       clear hoo hy he hq ho hx hp hq1 HWi HWp
       go_region_law (first | fail)
       all_goals
        go_wp2_with fail
        go_roundw
        case rel => exact ⟨i, by omega, by go_num, HWo.out.next (Below.refl _ _).drew⟩
        case measure => simp [intOf] <;> omega
      ·have hoo : p = lim vv i := by
        rw [← hp, ← hx, ← hvv]
        by_cases hi0 : i = 0
        ·subst hi0
         exact (lim_shl0 h32).symm
        ·obtain ⟨j, rfl⟩ : ∃ j, i = j + 1 := ⟨i - 1, by omega⟩
         have hs0 : s = 0 := by omega
         subst hs0
         rw [Nat.pow_zero, Nat.mul_one, Nat.mul_one, Nat.mod_eq_of_lt (lim_lt _ _)]
       have HWo := Lib.hid HWp.out
       rw [hoo, top_step, ← hoo] at HWo
       have hcond : ¬ ((0 : Int) < (i : Int) ∧ (0 : Int) < (s : Int)) := by omega
       clear hoo hx hp HWi HWp
       go_wp2_with fail
       all_goals
        go_roundw
        case rel => exact ⟨i, by omega, by go_num, HWo.out⟩
        case measure => simp [intOf] <;> omega
end
end Go.Proofs.YteaahhokaffmdaaGreatDoor
