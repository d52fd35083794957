/- What the laws lean on. -/
import Derived.Test.YteaahhokaffmdaaGreatDoorPt1
namespace Go.Proofs.YteaahhokaffmdaaGreatDoor
set_option linter.unusedVariables false
set_option linter.unusedSimpArgs false
section
open Go.RowKit
set_option maxHeartbeats 4000000
theorem wp_load_midB {P : Program} {o : Oper} {a : Act} {w : World} {K : Act → World → Prop} {Q : Exit → Act → World → Prop} (T : TypeId) (x : Operand) (ho : o.op = .load T x) (g k : Nat) (hx : a.eval x = .pointer (some ⟨g, k, none⟩)) {t : TypeId} {cs : Array Value} (hb : BlkAt w g cs t) {ds : Array Value} (hd : (cs.toList.drop k).take ds.size = ds.toList) (hr : RowV P T ds)
  (h : K (a.put o.dst (.agg ds)) w) : o.wp P a w K Q := by
 obtain ⟨d, hu, hd2⟩ := hr.row.row
 have hc : w.rangeAt g k ds.toList := fun j v hv => hb.cell (by
  rw [← hd] at hv
  have hj : j < ds.size := by
   have := (List.getElem?_eq_some_iff.1 hv).1
   simp at this
   omega
  rw [List.getElem?_take_of_lt hj, List.getElem?_drop] at hv
  simpa using hv)
 exact wp_load_mid T x ho g k hx ds.toList d hc hu (by cases d <;> simp_all [TypeDesc.isRow]) (by simpa using hr.row.size) h
theorem wp_store_blk {P : Program} {o : Oper} {a : Act} {w : World} {K : Act → World → Prop} {Q : Exit → Act → World → Prop} (T : TypeId) (x y : Operand) (ho : o.op = .store T x y) (g : Nat) (cells : Array Value) (hx : a.eval x = .pointer (some ⟨g, 0, none⟩)) (hy : a.eval y = .agg cells) {t : TypeId} {old : Array Value} (hb : BlkAt w g old t) (hr : RowV P T cells) (hs : old.size = cells.size)
  (h : K (a.put o.dst undef) (w.setRow g cells)) : o.wp P a w K Q := wp_store_row T x y ho g cells hx hy t old hb.blk hr.row.size hs hr.one h
theorem limA_low (c : Nat) : ((limA 64 c).toList.drop 0).take (limA 32 (c % bp 32)).size = (limA 32 (c % bp 32)).toList := by
 apply List.ext_getElem
 ·simp [limA]
 ·intro i h1 h2
  have hi : i < 32 := by simpa [limA] using h2
  simp [limA, lim_mod hi]
theorem limA_high (c : Nat) : ((limA 64 c).toList.drop 32).take (limA 32 (c / bp 32)).size = (limA 32 (c / bp 32)).toList := by
 apply List.ext_getElem
 ·simp [limA]
 ·intro i h1 h2
  simp [limA, lim_slice]
theorem big64Z : limA 64 0 = #[.int .u32 0, .int .u32 0, .int .u32 0, .int .u32 0, .int .u32 0, .int .u32 0, .int .u32 0, .int .u32 0, .int .u32 0, .int .u32 0, .int .u32 0, .int .u32 0, .int .u32 0, .int .u32 0, .int .u32 0, .int .u32 0, .int .u32 0, .int .u32 0, .int .u32 0, .int .u32 0, .int .u32 0, .int .u32 0, .int .u32 0, .int .u32 0, .int .u32 0, .int .u32 0, .int .u32 0, .int .u32 0, .int .u32 0, .int .u32 0, .int .u32 0, .int .u32 0, .int .u32 0, .int .u32 0, .int .u32 0, .int .u32 0, .int .u32 0, .int .u32 0, .int .u32 0, .int .u32 0, .int .u32 0, .int .u32 0, .int .u32 0, .int .u32 0, .int .u32 0, .int .u32 0, .int .u32 0, .int .u32 0, .int .u32 0, .int .u32 0, .int .u32 0, .int .u32 0, .int .u32 0, .int .u32 0, .int .u32 0, .int .u32 0, .int .u32 0, .int .u32 0, .int .u32 0, .int .u32 0, .int .u32 0, .int .u32 0, .int .u32 0, .int .u32 0] := by rw [limA_zero]; rfl
def DblAt (W : World) (g c : Nat) : Prop := BlkAt W g (limA 64 c) 192
theorem DblAt.cell {W : World} {g m i : Nat} (h : DblAt W g m) (hi : i < 64) : W.cell? ⟨g, i, none⟩ = some (.int .u32 (lim m i)) := BlkAt.cell h (limA_at hi)
theorem DblAt.next {W W' : World} {g m : Nat} (h : DblAt W g m) (hb : Below W.heap.size W W') : DblAt W' g m := BlkAt.next h hb
theorem DblAt.set {W : World} {g m i d : Nat} (h : DblAt W g m) (hd : d < 4294967296) : DblAt (W.setCell ⟨g, i, none⟩ (.int .u32 d)) g (setM m i d) := BlkAt.is (BlkAt.cellSet h i _) (limA_set hd)
structure MulW (w W : World) (g k a b c : Nat) : Prop where
 c : DblAt W (w.heap.size + 1) c
 r : MagAt W w.heap.size 0
 a : MagAt W g a
 b : MagAt W k b
 below : Below w.heap.size w W
 ng : g < w.heap.size
 nk : k < w.heap.size
theorem MulW.next {w W W' : World} {g k a b c : Nat} (h : MulW w W g k a b c) (hb : Below W.heap.size W W') : MulW w W' g k a b c := ⟨h.c.next hb, h.r.next hb, h.a.next hb, h.b.next hb, bnext h.below hb, h.ng, h.nk⟩
theorem MulW.set {w W : World} {g k a b c i d : Nat} (h : MulW w W g k a b c) (hd : d < 4294967296) : MulW w (W.setCell ⟨w.heap.size + 1, i, none⟩ (.int .u32 d)) g k a b (setM c i d) :=
 ⟨h.c.set hd, h.r.far (by omega), h.a.far (by have := h.ng; omega), h.b.far (by have := h.nk; omega), h.below.setCell (show w.heap.size ≤ w.heap.size + 1 by omega) _, h.ng, h.nk⟩
set_option maxRecDepth 100000 in
theorem times_any {a b g k : Nat} {w : World} (ha : MagAt w g a) (hb : MagAt w k b) (la : a < bp 32) (lb : b < bp 32) : Calls Tryz.prog 195 #[.pointer (some ⟨g, 0, none⟩), .pointer (some ⟨k, 0, none⟩)] w (RetB (.tuple #[.agg (limA 32 (a * b % bp 32)), .bool (decide (a * b / bp 32 = 0))]) w) := by
 obtain ⟨n, hn, hun⟩ := used_ex a la
 obtain ⟨m, hm, hum⟩ := used_ex b lb
 have hgl := BlkAt.lt ha
 have hkl := BlkAt.lt hb
 have hbl := bal (bal0 w (.cells #[.int .u32 0, .int .u32 0, .int .u32 0, .int .u32 0, .int .u32 0, .int .u32 0, .int .u32 0, .int .u32 0, .int .u32 0, .int .u32 0, .int .u32 0, .int .u32 0, .int .u32 0, .int .u32 0, .int .u32 0, .int .u32 0, .int .u32 0, .int .u32 0, .int .u32 0, .int .u32 0, .int .u32 0, .int .u32 0, .int .u32 0, .int .u32 0, .int .u32 0, .int .u32 0, .int .u32 0, .int .u32 0, .int .u32 0, .int .u32 0, .int .u32 0, .int .u32 0] 155)) (.cells #[.int .u32 0, .int .u32 0, .int .u32 0, .int .u32 0, .int .u32 0, .int .u32 0, .int .u32 0, .int .u32 0, .int .u32 0, .int .u32 0, .int .u32 0, .int .u32 0, .int .u32 0, .int .u32 0, .int .u32 0, .int .u32 0, .int .u32 0, .int .u32 0, .int .u32 0, .int .u32 0, .int .u32 0, .int .u32 0, .int .u32 0, .int .u32 0, .int .u32 0, .int .u32 0, .int .u32 0, .int .u32 0, .int .u32 0, .int .u32 0, .int .u32 0, .int .u32 0, .int .u32 0, .int .u32 0, .int .u32 0, .int .u32 0, .int .u32 0, .int .u32 0, .int .u32 0, .int .u32 0, .int .u32 0, .int .u32 0, .int .u32 0, .int .u32 0, .int .u32 0, .int .u32 0, .int .u32 0, .int .u32 0, .int .u32 0, .int .u32 0, .int .u32 0, .int .u32 0, .int .u32 0, .int .u32 0, .int .u32 0, .int .u32 0, .int .u32 0, .int .u32 0, .int .u32 0, .int .u32 0, .int .u32 0, .int .u32 0, .int .u32 0, .int .u32 0] 192)
 have HW := Lib.hid (show MulW w ((w.alloc (.cells #[.int .u32 0, .int .u32 0, .int .u32 0, .int .u32 0, .int .u32 0, .int .u32 0, .int .u32 0, .int .u32 0, .int .u32 0, .int .u32 0, .int .u32 0, .int .u32 0, .int .u32 0, .int .u32 0, .int .u32 0, .int .u32 0, .int .u32 0, .int .u32 0, .int .u32 0, .int .u32 0, .int .u32 0, .int .u32 0, .int .u32 0, .int .u32 0, .int .u32 0, .int .u32 0, .int .u32 0, .int .u32 0, .int .u32 0, .int .u32 0, .int .u32 0, .int .u32 0] 155)).alloc (.cells #[.int .u32 0, .int .u32 0, .int .u32 0, .int .u32 0, .int .u32 0, .int .u32 0, .int .u32 0, .int .u32 0, .int .u32 0, .int .u32 0, .int .u32 0, .int .u32 0, .int .u32 0, .int .u32 0, .int .u32 0, .int .u32 0, .int .u32 0, .int .u32 0, .int .u32 0, .int .u32 0, .int .u32 0, .int .u32 0, .int .u32 0, .int .u32 0, .int .u32 0, .int .u32 0, .int .u32 0, .int .u32 0, .int .u32 0, .int .u32 0, .int .u32 0, .int .u32 0, .int .u32 0, .int .u32 0, .int .u32 0, .int .u32 0, .int .u32 0, .int .u32 0, .int .u32 0, .int .u32 0, .int .u32 0, .int .u32 0, .int .u32 0, .int .u32 0, .int .u32 0, .int .u32 0, .int .u32 0, .int .u32 0, .int .u32 0, .int .u32 0, .int .u32 0, .int .u32 0, .int .u32 0, .int .u32 0, .int .u32 0, .int .u32 0, .int .u32 0, .int .u32 0, .int .u32 0, .int .u32 0, .int .u32 0, .int .u32 0, .int .u32 0, .int .u32 0] 192)) g k a b 0 from
  ⟨BlkAt.is (BlkAt.newAt _ _ _ (by simp)) big64Z.symm, MagAt.zero ((BlkAt.new _ _ _).al _), ha.next hbl, hb.next hbl, hbl, hgl, hkl⟩)
 have u1 := fun {W : World} (h : MagAt W g a) => used_any h la hun
 have u2 := fun {W : World} (h : MagAt W k b) => used_any h lb hum
 have HL := Lib.hid (And.intro hun.1 hum.1)
 clear ha hb la lb hun hum hbl hgl hkl
 go_enter Tryz.func195, Tryz.ntmps195
 go_wp2_with fail
 generalize (w.alloc _).alloc _ = w0 at *
 refine (u1 HW.out.a).mono ?_
 rintro e1 w1 ⟨rfl, hb1⟩
 have HW1 := Lib.hid (HW.out.next hb1)
 clear hb1 HW u1
 go_wp2_with fail
 refine (u2 HW1.out.b).mono ?_
 rintro e2 w2 ⟨rfl, hb2⟩
 have HW2 := Lib.hid (HW1.out.next hb2)
 clear hb2 HW1 u2
 go_wp2_with fail
 go_loopw [18] (fun iv wr => ∃ i : Nat, i ≤ n ∧ iv = .int .i64 i ∧ MulW w wr g k a b ((a % bp i) * b)) (fun iv _ => n - (intOf iv).toNat)
 case atStart => exact ⟨0, by omega, rfl, by rw [bp_zero, Nat.mod_one, Nat.zero_mul]; exact HW2.out⟩
 case round =>
  obtain ⟨i, hi, rfl, hW⟩ := hrel
  have HWi := Lib.hid hW
  clear hW HW2
  by_cases hin : i < n
  ·have hc0 : (a % bp i) * b < bp (i + m) := by
    rw [bp_add]
    exact Nat.lt_of_le_of_lt (Nat.mul_le_mul_right b (Nat.le_of_lt (Nat.mod_lt a (bp_pos i)))) (Nat.mul_lt_mul_of_pos_left HL.out.2 (bp_pos i))
   have HC0 := Lib.hid hc0
   clear hc0
   go_wp2_with fail
   go_loopw [10, 22] (fun qv jv wr => ∃ j q c : Nat, j ≤ m ∧ q < 4294967296 ∧ qv = .int .u64 q ∧ jv = .int .i64 j ∧ c < bp (i + m) ∧ c + q * bp (i + j) = (a % bp i) * b + lim a i * (b % bp j) * bp i ∧ MulW w wr g k a b c) (fun _ jv _ => m - (intOf jv).toNat)
   case atStart => exact ⟨0, 0, (a % bp i) * b, by omega, by omega, rfl, rfl, HC0.out, by rw [bp_zero, Nat.mod_one]; omega, HWi.out⟩
   case round =>
    obtain ⟨j, q, c, hj, hq, rfl, rfl, hcl, hrl, hW⟩ := hrel
    have HC := Lib.hid (And.intro hcl hrl)
    have HWj := Lib.hid hW
    clear hcl hrl hW HWi HC0
    by_cases hjm : j < m
    ·obtain ⟨x, hx⟩ : ∃ x, lim a i = x := ⟨_, rfl⟩
     obtain ⟨y, hy⟩ : ∃ y, lim b j = y := ⟨_, rfl⟩
     obtain ⟨z, hz⟩ : ∃ z, lim c (i + j) = z := ⟨_, rfl⟩
     obtain ⟨ij, hij⟩ : ∃ ij, i + j = ij := ⟨_, rfl⟩
     have hx1 := lim_lt a i
     have hy1 := lim_lt b j
     have hz1 := lim_lt c (i + j)
     have hst := times_step HC.out.2
     have hlt := times_lt hx1 hy1 hz1 hq
     rw [hx, hy, hz] at hst hlt
     rw [hx] at hx1
     rw [hy] at hy1
     rw [hz] at hz1
     obtain ⟨p1, hp1⟩ : ∃ p, x * y = p := ⟨_, rfl⟩
     obtain ⟨p2, hp2⟩ : ∃ p, p1 + z = p := ⟨_, rfl⟩
     obtain ⟨t, ht⟩ : ∃ t, p2 + q = t := ⟨_, rfl⟩
     rw [hp1, hp2, ht] at hst hlt
     obtain ⟨d, hd⟩ : ∃ d, t % 4294967296 = d := ⟨_, rfl⟩
     obtain ⟨q', hq'⟩ : ∃ q', t / 4294967296 = q' := ⟨_, rfl⟩
     rw [hd, hq', hij] at hst
     have hd1 : d < 4294967296 := by omega
     have hq1 : q' < 4294967296 := by omega
     have c1 := HWj.out.a.cell (show i < 32 by omega)
     have c2 := HWj.out.b.cell (show j < 32 by omega)
     have c3 := HWj.out.c.cell (show ij < 64 by omega)
     rw [hx] at c1
     rw [hy] at c2
     rw [← hij, hz, hij] at c3
     have m0 : IntKind.i64.wrap ((i : Int) + (j : Int)) = (ij : Int) := by rw [show (i : Int) + (j : Int) = (ij : Int) by omega]; exact IntWalk.i64_in _ (by omega)
     have e1 : IntKind.u64.wrap (x : Int) = (x : Int) := wrap64 (by omega)
     have e2 : IntKind.u64.wrap (y : Int) = (y : Int) := wrap64 (by omega)
     have e3 : IntKind.u64.wrap (z : Int) = (z : Int) := wrap64 (by omega)
     have m1 : IntKind.u64.wrap ((x : Int) * (y : Int)) = (p1 : Int) := by
      rw [show (x : Int) * (y : Int) = ((p1 : Nat) : Int) by rw [← hp1]; push_cast; rfl]
      exact wrap64 (by omega)
     have m2 : IntKind.u64.wrap ((p1 : Int) + (z : Int)) = (p2 : Int) := by
      rw [show (p1 : Int) + (z : Int) = ((p2 : Nat) : Int) by omega]
      exact wrap64 (by omega)
     have m3 : IntKind.u64.wrap ((p2 : Int) + (q : Int)) = (t : Int) := by
      rw [show (p2 : Int) + (q : Int) = ((t : Nat) : Int) by omega]
      exact wrap64 (by omega)
     have m4 : (t : Int) % 4294967296 = (d : Int) := by omega
     have m5 : (t : Int) / 4294967296 = (q' : Int) := by omega
     have i0 : (0 : Int) ≤ (i : Int) := by omega
     have i1 : (i : Int) < 32 := by omega
     have j0 : (0 : Int) ≤ (j : Int) := by omega
     have j1 : (j : Int) < 32 := by omega
     have ij0 : (0 : Int) ≤ (ij : Int) := by omega
     have ij1 : (ij : Int) < 64 := by omega
     have HN := Lib.hid (show setM c ij d < bp (i + m) ∧ setM c ij d + q' * bp (i + (j + 1)) = (a % bp i) * b + lim a i * (b % bp (j + 1)) * bp i from ⟨setM_lt HC.out.1 (by omega) hd1, by rw [hx]; exact hst⟩)
     have HWD := Lib.hid (fun n : Nat => HWj.out.next (Go.below_drewN (Below.refl wr.heap.size wr) n))
     have HWS := Lib.hid (fun n : Nat => (HWj.out.next (Go.below_drewN (Below.refl wr.heap.size wr) n)).set (i := ij) hd1)
     clear hx hy hz hij hst hlt hp1 hp2 ht hd hq' hx1 hy1 hz1
     go_wp2_with fail
     go_quiet (fail)
     have cst := (HWD.out nq).c.cell (show ij < 64 by omega)
     have fst := BlkAt.fz (HWD.out nq).c ij
     clear c1 c2 c3
     go_wp2_with fail
     go_roundw
     case rel => exact ⟨j + 1, q', setM c ij d, by omega, hq1, rfl, by go_num, HN.out.1, HN.out.2, HWS.out _⟩
     case measure => simp [intOf]; omega
    ·obtain rfl : j = m := by omega
     obtain ⟨ij, hij⟩ : ∃ ij, i + j = ij := ⟨_, rfl⟩
     obtain ⟨hr1, hr2⟩ := times_row HL.out.2 HC.out.1 hq HC.out.2
     rw [hij] at hr1 hr2
     have m0 : IntKind.i64.wrap ((i : Int) + (j : Int)) = (ij : Int) := by rw [show (i : Int) + (j : Int) = (ij : Int) by omega]; exact IntWalk.i64_in _ (by omega)
     have m4 : (q : Int) % 4294967296 = (q : Int) := by omega
     have ij0 : (0 : Int) ≤ (ij : Int) := by omega
     have ij1 : (ij : Int) < 64 := by omega
     have cst := HWj.out.c.cell (show ij < 64 by omega)
     have fst := BlkAt.fz HWj.out.c ij
     have HWS := Lib.hid (HWj.out.set (i := ij) hq)
     have HRS := Lib.hid hr1
     clear hr1 hr2 hij HC
     go_wp2_with fail
     go_roundw
     case rel => exact ⟨i + 1, by omega, by go_num, by rw [← HRS.out]; exact HWS.out⟩
     case measure => simp [intOf]; omega
  ·obtain rfl : i = n := by omega
   rw [Nat.mod_eq_of_lt HL.out.1] at HWi
   have hsz : (limA 32 (a * b % bp 32)).size = 32 := limA_size _ _
   have hhi : a * b / bp 32 < bp 32 := by
    rw [Nat.div_lt_iff_lt_mul (bp_pos 32)]
    have h1 := Nat.mul_lt_mul_of_lt_of_lt HL.out.1 HL.out.2
    rw [← bp_add] at h1 ⊢
    exact Nat.lt_of_lt_of_le h1 (bp_le (by omega))
   obtain ⟨z, hz⟩ : ∃ z, decide (a * b / bp 32 = 0) = z := ⟨_, rfl⟩
   have he := eqz (a * b / bp 32) hhi
   rw [hz] at he
   have HZ := Lib.hid (show z = (decide (bp 32 = 0) || decide (a * b < bp 32)) by rw [← hz]; simp [Nat.div_eq_zero_iff])
   have HCD := HWi.out.c.next (Below.refl _ _).drew
   have HRD := HWi.out.r.next (Below.refl _ _).drew
   have HBD := Lib.hid (bnext HWi.out.below (Below.refl _ _).drew)
   clear hz hsz hhi HL
   go_upto_region 15 with (fail)
   have hpl : Tryz.prog.follows .mixedOrders = true := by kernel_rfl
   refine wp_region_mid hpl 5 66 (fun l mm W => ∃ s5 s63 s64 s65 s66 s67 s68 s69 s70 : Value, mm = [s5, .pointer (some ⟨w.heap.size + 1, 0, none⟩), .int .i64 (i : Int), .int .i64 (m : Int), u9, u10, u11, u12, .pointer (some ⟨g, 0, none⟩), .int .i64 (i : Int), .pointer (some ⟨k, 0, none⟩), .int .i64 (m : Int), .int .i64 (i : Int), .int .i64 (i : Int), .bool false, u20, u21, u22, u23, u24, u25, u26, u27, u28, u29, u30, u31, u32, u33, u34, u35, u36, u37, u38, u39, u40, u41, u42, u43, u44, u45, u46, u47, u48, u49, u50, u51, u52, u53, u54, u55, u56, u57, u58, u59, u60, u61, u62, s63, s64, s65, s66, s67, s68, s69, s70] ∧ (l.getD 0 false = true → s63 = .slice (some ⟨w.heap.size + 1, 0, none⟩) 32 64) ∧ (l.getD 1 false = true → s64 = .pointer (some ⟨w.heap.size + 1, 0, none⟩)) ∧ (l.getD 2 false = true → s65 = .agg (limA 32 (a * b % bp 32))) ∧ (l.getD 3 false = true → s66 = .slice (some ⟨w.heap.size + 1, 32, none⟩) 32 32) ∧ (l.getD 4 false = true → s67 = .pointer (some ⟨w.heap.size + 1, 32, none⟩)) ∧ (l.getD 5 false = true → s68 = .agg (limA 32 (a * b / bp 32))) ∧ (l.getD 6 false = true → s69 = .agg #[.int .u32 0, .int .u32 0, .int .u32 0, .int .u32 0, .int .u32 0, .int .u32 0, .int .u32 0, .int .u32 0, .int .u32 0, .int .u32 0, .int .u32 0, .int .u32 0, .int .u32 0, .int .u32 0, .int .u32 0, .int .u32 0, .int .u32 0, .int .u32 0, .int .u32 0, .int .u32 0, .int .u32 0, .int .u32 0, .int .u32 0, .int .u32 0, .int .u32 0, .int .u32 0, .int .u32 0, .int .u32 0, .int .u32 0, .int .u32 0, .int .u32 0, .int .u32 0]) ∧ (l.getD 7 false = true → s70 = .bool z) ∧ (l.getD 8 false = true → MagAt W w.heap.size (a * b % bp 32)) ∧ (l.getD 9 false = true → s5 = .bool z) ∧ DblAt W (w.heap.size + 1) (a * b) ∧ (∃ r, MagAt W w.heap.size r) ∧ Below w.heap.size w W) (by kernel_rfl) rfl ?_ ?_ ?_
   ·exact ⟨_, _, _, _, _, _, _, _, _, rfl, fun h => absurd h (by decide), fun h => absurd h (by decide), fun h => absurd h (by decide), fun h => absurd h (by decide), fun h => absurd h (by decide), fun h => absurd h (by decide), fun h => absurd h (by decide), fun h => absurd h (by decide), fun h => absurd h (by decide), fun h => absurd h (by decide), ⟨HCD, ⟨_, HRD⟩, HBD.out⟩⟩
   ·rintro listed mm W ii hi ⟨s5, s63, s64, s65, s66, s67, s68, s69, s70, rfl, h0, h1, h2, h3, h4, h5, h6, h7, h8, h9, hI⟩ hd
    have hc : ii = 0 ∨ ii = 1 ∨ ii = 2 ∨ ii = 3 ∨ ii = 4 ∨ ii = 5 ∨ ii = 6 ∨ ii = 7 ∨ ii = 8 ∨ ii = 9 := by
     have hi2 : ii < 10 := hi
     omega
    clear hi
    rcases hc with rfl | rfl | rfl | rfl | rfl | rfl | rfl | rfl | rfl | rfl
    ·have HH := Lib.hid (And.intro trivial hI)
     refine wpOp_open rfl rfl (fun K hK => ?_)
     simp only [List.take_succ_cons, List.take_zero, List.drop_succ_cons, List.drop_zero, z7, z8]
     go_simp
     exact hK _ _ ⟨_, rfl, _, _, _, _, _, _, _, _, _, rfl, fun _ => rfl, listed_keep (by decide) h1, listed_keep (by decide) h2, listed_keep (by decide) h3, listed_keep (by decide) h4, listed_keep (by decide) h5, listed_keep (by decide) h6, listed_keep (by decide) h7, listed_keep (by decide) h8, listed_keep (by decide) h9, HH.out.2⟩
    ·have d0 := h0 (hd 0 (by kernel_rfl))
     obtain rfl := d0
     have HH := Lib.hid (And.intro trivial hI)
     refine wpOp_open rfl rfl (fun K hK => ?_)
     simp only [List.take_succ_cons, List.take_zero, List.drop_succ_cons, List.drop_zero, z7, z8]
     go_simp
     exact hK _ _ ⟨_, rfl, _, _, _, _, _, _, _, _, _, rfl, listed_keep (by decide) h0, fun _ => rfl, listed_keep (by decide) h2, listed_keep (by decide) h3, listed_keep (by decide) h4, listed_keep (by decide) h5, listed_keep (by decide) h6, listed_keep (by decide) h7, listed_keep (by decide) h8, listed_keep (by decide) h9, HH.out.2⟩
    ·have d1 := h1 (hd 1 (by kernel_rfl))
     obtain rfl := d1
     have HH := Lib.hid (And.intro trivial hI)
     refine wpOp_open rfl rfl (fun K hK => ?_)
     simp only [List.take_succ_cons, List.take_zero, List.drop_succ_cons, List.drop_zero, z7, z8]
     refine wp_load_midB 155 _ rfl (w.heap.size + 1) 0 rfl HH.out.2.1 (limA_low (a * b)) (rowMag _) ?_
     exact hK _ _ ⟨_, rfl, _, _, _, _, _, _, _, _, _, rfl, listed_keep (by decide) h0, listed_keep (by decide) h1, fun _ => rfl, listed_keep (by decide) h3, listed_keep (by decide) h4, listed_keep (by decide) h5, listed_keep (by decide) h6, listed_keep (by decide) h7, listed_keep (by decide) h8, listed_keep (by decide) h9, HH.out.2⟩
    ·have HH := Lib.hid (And.intro trivial hI)
     refine wpOp_open rfl rfl (fun K hK => ?_)
     simp only [List.take_succ_cons, List.take_zero, List.drop_succ_cons, List.drop_zero, z7, z8]
     go_simp
     exact hK _ _ ⟨_, rfl, _, _, _, _, _, _, _, _, _, rfl, listed_keep (by decide) h0, listed_keep (by decide) h1, listed_keep (by decide) h2, fun _ => rfl, listed_keep (by decide) h4, listed_keep (by decide) h5, listed_keep (by decide) h6, listed_keep (by decide) h7, listed_keep (by decide) h8, listed_keep (by decide) h9, HH.out.2⟩
    ·have d3 := h3 (hd 3 (by kernel_rfl))
     obtain rfl := d3
     have HH := Lib.hid (And.intro trivial hI)
     refine wpOp_open rfl rfl (fun K hK => ?_)
     simp only [List.take_succ_cons, List.take_zero, List.drop_succ_cons, List.drop_zero, z7, z8]
     go_simp
     exact hK _ _ ⟨_, rfl, _, _, _, _, _, _, _, _, _, rfl, listed_keep (by decide) h0, listed_keep (by decide) h1, listed_keep (by decide) h2, listed_keep (by decide) h3, fun _ => rfl, listed_keep (by decide) h5, listed_keep (by decide) h6, listed_keep (by decide) h7, listed_keep (by decide) h8, listed_keep (by decide) h9, HH.out.2⟩
    ·have d4 := h4 (hd 4 (by kernel_rfl))
     obtain rfl := d4
     have HH := Lib.hid (And.intro trivial hI)
     refine wpOp_open rfl rfl (fun K hK => ?_)
     simp only [List.take_succ_cons, List.take_zero, List.drop_succ_cons, List.drop_zero, z7, z8]
     refine wp_load_midB 155 _ rfl (w.heap.size + 1) 32 rfl HH.out.2.1 (limA_high (a * b)) (rowMag _) ?_
     exact hK _ _ ⟨_, rfl, _, _, _, _, _, _, _, _, _, rfl, listed_keep (by decide) h0, listed_keep (by decide) h1, listed_keep (by decide) h2, listed_keep (by decide) h3, listed_keep (by decide) h4, fun _ => rfl, listed_keep (by decide) h6, listed_keep (by decide) h7, listed_keep (by decide) h8, listed_keep (by decide) h9, HH.out.2⟩
    ·have HH := Lib.hid (And.intro trivial hI)
     refine wpOp_open rfl rfl (fun K hK => ?_)
     simp only [List.take_succ_cons, List.take_zero, List.drop_succ_cons, List.drop_zero, z7, z8]
     go_simp
     exact hK _ _ ⟨_, rfl, _, _, _, _, _, _, _, _, _, rfl, listed_keep (by decide) h0, listed_keep (by decide) h1, listed_keep (by decide) h2, listed_keep (by decide) h3, listed_keep (by decide) h4, listed_keep (by decide) h5, fun _ => rfl, listed_keep (by decide) h7, listed_keep (by decide) h8, listed_keep (by decide) h9, HH.out.2⟩
    ·have d5 := h5 (hd 5 (by kernel_rfl))
     obtain rfl := d5
     have d6 := h6 (hd 6 (by kernel_rfl))
     obtain rfl := d6
     have HH := Lib.hid (And.intro trivial hI)
     refine wpOp_open rfl rfl (fun K hK => ?_)
     simp only [List.take_succ_cons, List.take_zero, List.drop_succ_cons, List.drop_zero, z7, z8]
     go_simp
     exact hK _ _ ⟨_, rfl, _, _, _, _, _, _, _, _, _, rfl, listed_keep (by decide) h0, listed_keep (by decide) h1, listed_keep (by decide) h2, listed_keep (by decide) h3, listed_keep (by decide) h4, listed_keep (by decide) h5, listed_keep (by decide) h6, fun _ => rfl, listed_keep (by decide) h8, listed_keep (by decide) h9, HH.out.2⟩
    ·have d2 := h2 (hd 2 (by kernel_rfl))
     obtain rfl := d2
     have HH := Lib.hid (And.intro trivial hI)
     refine wpOp_open rfl rfl (fun K hK => ?_)
     simp only [List.take_succ_cons, List.take_zero, List.drop_succ_cons, List.drop_zero, z7, z8]
     obtain ⟨r, hr⟩ := HH.out.2.2.1
     refine wp_store_blk 155 _ _ rfl w.heap.size (limA 32 (a * b % bp 32)) rfl rfl hr.blk (rowMag _) (by rw [limA_size, limA_size]) ?_
     exact hK _ _ ⟨_, rfl, _, _, _, _, _, _, _, _, _, rfl, listed_keep (by decide) h0, listed_keep (by decide) h1, listed_keep (by decide) h2, listed_keep (by decide) h3, listed_keep (by decide) h4, listed_keep (by decide) h5, listed_keep (by decide) h6, listed_keep (by decide) h7, fun _ => hr.blk.set (limA 32 (a * b % bp 32)), listed_keep (by decide) h9, ⟨BlkAt.setFar HH.out.2.1 _ (by omega), ⟨_, hr.blk.set (limA 32 (a * b % bp 32))⟩, Below.setRow HH.out.2.2.2 (Nat.le_refl _) _⟩⟩
    ·have d7 := h7 (hd 7 (by kernel_rfl))
     obtain rfl := d7
     have HH := Lib.hid (And.intro trivial hI)
     refine wpOp_open rfl rfl (fun K hK => ?_)
     simp only [List.take_succ_cons, List.take_zero, List.drop_succ_cons, List.drop_zero, z7, z8]
     go_simp
     exact hK _ _ ⟨_, rfl, _, _, _, _, _, _, _, _, _, rfl, listed_keep (by decide) h0, listed_keep (by decide) h1, listed_keep (by decide) h2, listed_keep (by decide) h3, listed_keep (by decide) h4, listed_keep (by decide) h5, listed_keep (by decide) h6, listed_keep (by decide) h7, listed_keep (by decide) h8, fun _ => rfl, HH.out.2⟩
   ·rintro listed mm W ⟨s5, s63, s64, s65, s66, s67, s68, s69, s70, rfl, h0, h1, h2, h3, h4, h5, h6, h7, h8, h9, hI⟩ hall
    obtain rfl := h0 (hall 0 (by decide))
    obtain rfl := h1 (hall 1 (by decide))
    obtain rfl := h2 (hall 2 (by decide))
    obtain rfl := h3 (hall 3 (by decide))
    obtain rfl := h4 (hall 4 (by decide))
    obtain rfl := h5 (hall 5 (by decide))
    obtain rfl := h6 (hall 6 (by decide))
    obtain rfl := h7 (hall 7 (by decide))
    have HF8 := Lib.hid (h8 (hall 8 (by decide)))
    obtain rfl := h9 (hall 9 (by decide))
    have HI0 := Lib.hid hI
    clear hI hall
    simp only [List.take_succ_cons, List.take_zero, List.drop_succ_cons, List.drop_zero, z7, z8]
    go_wp2_with fail
    exact bodyPost_ret (res_cs rfl rfl rfl HF8.out.blk (rowMag _)) rfl ⟨congrArg (fun q => Ending.returned (.tuple #[_, .bool q])) HZ.out, HI0.out.2.2⟩
end
section
open Go.RowKit
set_option maxHeartbeats 1000000
def mulI (x : Bool) (a : Nat) (y : Bool) (b : Nat) : Bool × Nat × Int :=
 if a * b < bp 32 then (canB (xor (canB x a) (canB y b)) (a * b), a * b, 0) else (false, 0, 10)
set_option maxRecDepth 100000 in
theorem mul_any {x : Bool} {a : Nat} {y : Bool} {b : Nat} (ha : a < bp 32) (hb : b < bp 32) {r : Bool × Nat × Int} (hr : mulI x a y b = r) (w : World) : Calls Tryz.prog 139 #[.agg (intC x a), .agg (intC y b)] w (RetB (.tuple #[.agg (intC r.1 r.2.1), .int .i64 r.2.2]) w) := by
 have g3 := fun w => splitC (neg := x) ha w
 have g4 := fun w => splitC (neg := y) hb w
 unfold mulI at hr
 obtain ⟨p, hp⟩ : ∃ p, canB x a = p := ⟨_, rfl⟩
 obtain ⟨q, hq⟩ : ∃ q, canB y b = q := ⟨_, rfl⟩
 rw [hp, hq] at hr
 obtain ⟨o, ho⟩ : ∃ o, xor p q = o := ⟨_, rfl⟩
 obtain ⟨s, hs⟩ : ∃ s, a * b = s := ⟨_, rfl⟩
 rw [ho, hs] at hr
 have HS := Lib.hid hs
 have HO := Lib.hid ho
 rw [hp] at g3
 rw [hq] at g4
 have HL := Lib.hid (And.intro ha hb)
 have HR := Lib.hid hr
 have HI := Lib.hid (show BlkAt (((w.alloc (.cells (intC x a) 29)).alloc (.cells (intC y b) 29)).alloc (.cells #[.bool false, .int .u32 0, .int .u32 0, .int .u32 0, .int .u32 0, .int .u32 0, .int .u32 0, .int .u32 0, .int .u32 0, .int .u32 0, .int .u32 0, .int .u32 0, .int .u32 0, .int .u32 0, .int .u32 0, .int .u32 0, .int .u32 0, .int .u32 0, .int .u32 0, .int .u32 0, .int .u32 0, .int .u32 0, .int .u32 0, .int .u32 0, .int .u32 0, .int .u32 0, .int .u32 0, .int .u32 0, .int .u32 0, .int .u32 0, .int .u32 0, .int .u32 0, .int .u32 0] 29)) w.heap.size (intC x a) 29 from ((BlkAt.new _ _ _).al _).al _)
 have HJ := Lib.hid (show BlkAt (((w.alloc (.cells (intC x a) 29)).alloc (.cells (intC y b) 29)).alloc (.cells #[.bool false, .int .u32 0, .int .u32 0, .int .u32 0, .int .u32 0, .int .u32 0, .int .u32 0, .int .u32 0, .int .u32 0, .int .u32 0, .int .u32 0, .int .u32 0, .int .u32 0, .int .u32 0, .int .u32 0, .int .u32 0, .int .u32 0, .int .u32 0, .int .u32 0, .int .u32 0, .int .u32 0, .int .u32 0, .int .u32 0, .int .u32 0, .int .u32 0, .int .u32 0, .int .u32 0, .int .u32 0, .int .u32 0, .int .u32 0, .int .u32 0, .int .u32 0, .int .u32 0] 29)) (w.heap.size + 1) (intC y b) 29 from (BlkAt.newAt _ _ _ (by simp)).al _)
 have HZ := Lib.hid (show BlkAt (((w.alloc (.cells (intC x a) 29)).alloc (.cells (intC y b) 29)).alloc (.cells #[.bool false, .int .u32 0, .int .u32 0, .int .u32 0, .int .u32 0, .int .u32 0, .int .u32 0, .int .u32 0, .int .u32 0, .int .u32 0, .int .u32 0, .int .u32 0, .int .u32 0, .int .u32 0, .int .u32 0, .int .u32 0, .int .u32 0, .int .u32 0, .int .u32 0, .int .u32 0, .int .u32 0, .int .u32 0, .int .u32 0, .int .u32 0, .int .u32 0, .int .u32 0, .int .u32 0, .int .u32 0, .int .u32 0, .int .u32 0, .int .u32 0, .int .u32 0, .int .u32 0] 29)) (w.heap.size + 1 + 1) #[.bool false, .int .u32 0, .int .u32 0, .int .u32 0, .int .u32 0, .int .u32 0, .int .u32 0, .int .u32 0, .int .u32 0, .int .u32 0, .int .u32 0, .int .u32 0, .int .u32 0, .int .u32 0, .int .u32 0, .int .u32 0, .int .u32 0, .int .u32 0, .int .u32 0, .int .u32 0, .int .u32 0, .int .u32 0, .int .u32 0, .int .u32 0, .int .u32 0, .int .u32 0, .int .u32 0, .int .u32 0, .int .u32 0, .int .u32 0, .int .u32 0, .int .u32 0, .int .u32 0] 29 from BlkAt.newAt _ _ _ (by simp))
 have HB := Lib.hid (bal (bal (bal0 w (.cells (intC x a) 29)) (.cells (intC y b) 29)) (.cells #[.bool false, .int .u32 0, .int .u32 0, .int .u32 0, .int .u32 0, .int .u32 0, .int .u32 0, .int .u32 0, .int .u32 0, .int .u32 0, .int .u32 0, .int .u32 0, .int .u32 0, .int .u32 0, .int .u32 0, .int .u32 0, .int .u32 0, .int .u32 0, .int .u32 0, .int .u32 0, .int .u32 0, .int .u32 0, .int .u32 0, .int .u32 0, .int .u32 0, .int .u32 0, .int .u32 0, .int .u32 0, .int .u32 0, .int .u32 0, .int .u32 0, .int .u32 0, .int .u32 0] 29))
 clear hp hq ha hb hr hs ho
 go_enter Tryz.func139, Tryz.ntmps139
 go_upto_region 1 with (fail)
 generalize ((w.alloc _).alloc _).alloc _ = w0 at *
 go_wp2_with (((with_reducible refine wpl_load rfl 29 _ rfl _ ?_ HI.out (rowInt x a) ?_); exact rfl))
 refine (g3 _).mono ?_
 rintro e3 w3 ⟨rfl, hb3⟩
 have HB3 := Lib.hid (bal hb3 (.cells (limA 32 a) 155))
 have HM3 := Lib.hid (show MagAt (w3.alloc (.cells (limA 32 a) 155)) w3.heap.size a from BlkAt.new _ _ _)
 clear hb3 g3 HI
 go_wp2_with (first | ((with_reducible refine wpl_store_new rfl 155 _ _ rfl (limA 32 a) ?_ ?_ (rowMag _) ?_ ?_); exact rfl; exact rfl; exact rfl) | ((with_reducible refine wpl_load rfl 29 _ rfl _ ?_ (HJ.out.next HB3.out) (rowInt y b) ?_); exact rfl))
 refine (g4 _).mono ?_
 rintro e4 w4 ⟨rfl, hb4⟩
 have HB4 := Lib.hid (bal (bnext HB3.out hb4) (.cells (limA 32 b) 155))
 have HM4 := Lib.hid (show MagAt (w4.alloc (.cells (limA 32 b) 155)) w3.heap.size a from BlkAt.al (HM3.out.next hb4) _)
 have HN4 := Lib.hid (show MagAt (w4.alloc (.cells (limA 32 b) 155)) w4.heap.size b from BlkAt.new _ _ _)
 have HZ4 := Lib.hid (HZ.out.next HB4.out)
 have HW4 := Lib.hid (bnext HB.out HB4.out)
 clear hb4 HB3 HM3 g4 HJ HZ HB HB4
 go_upto_region 3 with (((with_reducible refine wpl_store_new rfl 155 _ _ rfl (limA 32 b) ?_ ?_ (rowMag _) ?_ ?_); exact rfl; exact rfl; exact rfl))
 generalize w4.alloc _ = w5 at *
 generalize w4.heap.size = B at *
 generalize w3.heap.size = A at *
 have hge : w.heap.size ≤ w.heap.size + 1 + 1 := by omega
 have g5 := times_any HM4.out HN4.out HL.out.1 HL.out.2
 rw [HS.out] at g5
 by_cases hfit : s < bp 32
 ·rw [if_pos hfit] at HR
  rw [Nat.mod_eq_of_lt hfit, Nat.div_eq_of_lt hfit] at g5
  have g6 := fun w => madeC (neg := o) hfit w
  have hrr := HR.out
  subst hrr
  have hpq : (p == q) = !o := by rw [← HO.out]; cases p <;> cases q <;> rfl
  clear hfit HR HS HO
  go_wp2_with fail
  refine g5.mono ?_
  rintro e6 w6 ⟨rfl, hb6⟩
  have HW6 := Lib.hid (bal (bnext HW4.out hb6) (.cells (limA 32 s) 155))
  have HZ6 := Lib.hid ((HZ4.out.next hb6).al (.cells (limA 32 s) 155))
  have HS6 := Lib.hid (BlkAt.new w6 (limA 32 s) 155)
  clear hb6 g5 HM4 HN4 HZ4 HW4
  go_wp2_with (first | ((with_reducible refine wpl_store_new rfl 155 _ _ rfl (limA 32 s) ?_ ?_ (rowMag _) ?_ ?_); exact rfl; exact rfl; exact rfl) | ((with_reducible refine wpl_load rfl 155 _ rfl _ ?_ HS6.out (rowMag _) ?_); exact rfl))
  refine (g6 _).mono ?_
  rintro e7 w7 ⟨rfl, hb7⟩
  have HZ7 := Lib.hid (HZ6.out.next hb7)
  have HRR := Lib.hid (HZ7.out.set (intC (canB o s) s))
  have HWW := Lib.hid (Below.setRow (bnext HW6.out hb7) hge (intC (canB o s) s))
  clear hb7 g6 HW6 HZ6 HS6
  go_wp2_with ((with_reducible refine wpl_store rfl 29 _ _ rfl _ (intC (canB o s) s) ?_ ?_ HZ7.out (rowInt _ _) ?_ ?_); exact rfl; exact rfl; exact (by rw [intC_size]; rfl))
  exact bodyPost_ret (res_cs rfl rfl rfl HRR.out (rowInt _ _)) rfl ⟨rfl, HWW.out⟩
 ·have hd : decide (s / bp 32 = 0) = false := by
   apply decide_eq_false
   intro h
   exact hfit (lt_of_div h)
  rw [hd] at g5
  obtain ⟨z, hz⟩ : ∃ z, s % bp 32 = z := ⟨_, rfl⟩
  rw [hz] at g5
  rw [if_neg hfit] at HR
  have hrr := HR.out
  subst hrr
  clear hz hd hfit HR HS HO
  go_wp2_with fail
  refine g5.mono ?_
  rintro e6 w6 ⟨rfl, hb6⟩
  have HW6 := Lib.hid (bal (bnext HW4.out hb6) (.cells (limA 32 z) 155))
  have HZ6 := Lib.hid ((HZ4.out.next hb6).al (.cells (limA 32 z) 155))
  have HRR := Lib.hid ((HZ6.out.set #[.bool false, .int .u32 0, .int .u32 0, .int .u32 0, .int .u32 0, .int .u32 0, .int .u32 0, .int .u32 0, .int .u32 0, .int .u32 0, .int .u32 0, .int .u32 0, .int .u32 0, .int .u32 0, .int .u32 0, .int .u32 0, .int .u32 0, .int .u32 0, .int .u32 0, .int .u32 0, .int .u32 0, .int .u32 0, .int .u32 0, .int .u32 0, .int .u32 0, .int .u32 0, .int .u32 0, .int .u32 0, .int .u32 0, .int .u32 0, .int .u32 0, .int .u32 0, .int .u32 0]).is intZ.symm)
  have HWW := Lib.hid (Below.setRow HW6.out hge #[.bool false, .int .u32 0, .int .u32 0, .int .u32 0, .int .u32 0, .int .u32 0, .int .u32 0, .int .u32 0, .int .u32 0, .int .u32 0, .int .u32 0, .int .u32 0, .int .u32 0, .int .u32 0, .int .u32 0, .int .u32 0, .int .u32 0, .int .u32 0, .int .u32 0, .int .u32 0, .int .u32 0, .int .u32 0, .int .u32 0, .int .u32 0, .int .u32 0, .int .u32 0, .int .u32 0, .int .u32 0, .int .u32 0, .int .u32 0, .int .u32 0, .int .u32 0, .int .u32 0])
  clear hb6 g5 HM4 HN4 HZ4 HW4 HW6
  go_wp2_with (first | ((with_reducible refine wpl_store_new rfl 155 _ _ rfl (limA 32 z) ?_ ?_ (rowMag _) ?_ ?_); exact rfl; exact rfl; exact rfl) | ((with_reducible refine wpl_store rfl 29 _ _ rfl _ #[.bool false, .int .u32 0, .int .u32 0, .int .u32 0, .int .u32 0, .int .u32 0, .int .u32 0, .int .u32 0, .int .u32 0, .int .u32 0, .int .u32 0, .int .u32 0, .int .u32 0, .int .u32 0, .int .u32 0, .int .u32 0, .int .u32 0, .int .u32 0, .int .u32 0, .int .u32 0, .int .u32 0, .int .u32 0, .int .u32 0, .int .u32 0, .int .u32 0, .int .u32 0, .int .u32 0, .int .u32 0, .int .u32 0, .int .u32 0, .int .u32 0, .int .u32 0, .int .u32 0] ?_ ?_ HZ6.out rowIntZ ?_ ?_); exact rfl; exact rfl; exact rfl))
  exact bodyPost_ret (res_cs rfl rfl rfl HRR.out (rowInt _ _)) rfl ⟨rfl, HWW.out⟩
end
section
open Go.RowKit
set_option maxHeartbeats 4000000
structure Own (g : Nat) (w w' : World) : Prop where
 os : w'.os = w.os
 tape : w'.tape = w.tape
 output : w'.output = w.output
 size : w.heap.size ≤ w'.heap.size
 block : ∀ k, k < w.heap.size → k ≠ g → w'.heap[k]? = w.heap[k]?
theorem Own.refl (g : Nat) (w : World) : Own g w w := ⟨rfl, rfl, rfl, Nat.le_refl _, fun _ _ _ => rfl⟩
theorem Own.trans {g : Nat} {a b c : World} (h : Own g a b) (k : Own g b c) : Own g a c :=
 ⟨k.os.trans h.os, k.tape.trans h.tape, k.output.trans h.output, Nat.le_trans h.size k.size, fun i hi hg => (k.block i (Nat.lt_of_lt_of_le hi h.size) hg).trans (h.block i hi hg)⟩
theorem Own.of {g : Nat} {a b : World} (h : Below a.heap.size a b) : Own g a b := ⟨h.os, h.tape, h.output, h.size, fun k hk _ => h.block k hk⟩
theorem Own.next {g : Nat} {a b c : World} (h : Own g a b) (k : Below b.heap.size b c) : Own g a c := h.trans (Own.of k)
theorem Own.setCell {g : Nat} {a b : World} (h : Own g a b) (i : Nat) (v : Value) : Own g a (b.setCell ⟨g, i, none⟩ v) := by
 have hb := (Below.refl g b).setCell (p := ⟨g, i, none⟩) (Nat.le_refl _) v
 refine h.trans ⟨hb.os, hb.tape, hb.output, hb.size, fun k _ hk => ?_⟩
 exact Below.heap_setCell b ⟨g, i, none⟩ v k hk
theorem Own.below {g B : Nat} {w w' : World} (h : Own g w w') (hg : B ≤ g) (hB : B ≤ w.heap.size) : Below B w w' := ⟨h.os, h.tape, h.output, h.size, fun k hk => h.block k (Nat.lt_of_lt_of_le hk hB) (by omega)⟩
theorem Own.blk {g b : Nat} {w w' : World} {cs : Array Value} {t : TypeId} (h : Own g w w') (hb : BlkAt w b cs t) (hne : b ≠ g) : BlkAt w' b cs t := ⟨(h.block b hb.lt hne).trans hb.blk⟩
def RetS (v : Value) (g m : Nat) (w : World) (e : Ending) (w' : World) : Prop := e = .returned v ∧ MagAt w' g m ∧ Own g w w'
set_option maxRecDepth 100000 in
theorem short_any {m g x : Nat} {w : World} (hm : MagAt w g m) (lm : m < bp 32) (hx0 : 0 < x) (hx : x < 4294967296) : Calls Tryz.prog 142 #[.pointer (some ⟨g, 0, none⟩), .int .u32 x] w (RetS (.int .u32 (m % x : Nat)) g (m / x) w) := by
 obtain ⟨n, hn, hun⟩ := used_ex m lm
 have u1 := used_any hm lm hun
 have HM := Lib.hid hm
 have HX := Lib.hid (And.intro hx0 (And.intro lm hun.1))
 clear hm lm hun hx0
 go_enter Tryz.func142, Tryz.ntmps142
 go_wp2_with fail
 refine u1.mono ?_
 rintro e1 w1 ⟨rfl, hb1⟩
 have HB1 := Lib.hid hb1
 have HM1 := Lib.hid (HM.out.next hb1)
 clear hb1 u1 HM
 go_wp2_with fail
 go_loopw [5, 6] (fun rv iv wr => ∃ k r c : Nat, k ≤ 32 ∧ r < x ∧ rv = .int .u32 r ∧ iv = .int .i64 ((k : Int) - 1) ∧ c % bp k = m % bp k ∧ m / bp k = c / bp k * x + r ∧ MagAt wr g c ∧ Own g w wr) (fun _ iv _ => (intOf iv + 1).toNat)
 case atStart => exact ⟨n, 0, m, hn, HX.out.1, rfl, by go_num, rfl, by rw [Nat.div_eq_of_lt HX.out.2.2, Nat.zero_mul], HM1.out, Own.of HB1.out⟩
 case round =>
  obtain ⟨k, r, c, hk, hr, rfl, rfl, e1, e2, hc, ho⟩ := hrel
  have HE := Lib.hid (And.intro e1 e2)
  have HC := Lib.hid hc
  have HO := Lib.hid ho
  clear e1 e2 hc ho HM1 HB1
  cases k with
  | zero =>
   have h2 := HE.out.2
   rw [bp_zero, Nat.div_one, Nat.div_one] at h2
   have hq : m / x = c := by
    rw [h2, Nat.mul_comm, Nat.mul_add_div HX.out.1, Nat.div_eq_of_lt hr, Nat.add_zero]
   have hr2 : m % x = r := by
    rw [h2, Nat.mul_comm, Nat.mul_add_mod, Nat.mod_eq_of_lt hr]
   have HQ := Lib.hid (And.intro hq hr2)
   clear h2 hq hr2
   go_wp2_with fail
   go_ret
   rw [HQ.out.1, HQ.out.2]
   exact ⟨rfl, HC.out, HO.out⟩
  | succ i =>
   obtain ⟨y, hy⟩ : ∃ y, lim c i = y := ⟨_, rfl⟩
   obtain ⟨s1, s2, s3, s4⟩ := short_step hx hr HE.out.1 HE.out.2
   have hy1 := lim_lt c i
   rw [hy] at s1 s2 s3 s4 hy1
   obtain ⟨p, hp⟩ : ∃ p, (r * 4294967296 + y) / x = p := ⟨_, rfl⟩
   obtain ⟨q, hq⟩ : ∃ q, (r * 4294967296 + y) % x = q := ⟨_, rfl⟩
   have gd := fun w => div32_any r y x hr hy1 hx w
   rw [hp] at s1 s3 s4
   rw [hq] at s2 s4
   rw [hp, hq] at gd
   have HS := Lib.hid (And.intro s2 (And.intro s3 s4))
   have c1 := (HC.out).cell (show i < 32 by omega)
   rw [hy] at c1
   have HD := Lib.hid (HC.out.next (Below.refl _ _).drew)
   have c2 : Hid (∀ W : World, MagAt W g c → W.cell? ⟨g, i, none⟩ = some (.int .u32 y)) := Lib.hid (fun W h => by rw [← hy]; exact h.cell (by omega))
   have f1 := BlkAt.fz HC.out i
   have e1 : ((i + 1 : Nat) : Int) - 1 = (i : Int) := by omega
   rw [e1]
   have i0 : (0 : Int) ≤ (i : Int) := by omega
   have i1 : (i : Int) < 32 := by omega
   clear hy hp hq s2 s3 s4 HE e1
   go_wp2_with fail
   go_region_law (first | (go_simp; go_at_call 200; refine (gd _).mono ?_; rintro e w3 ⟨rfl, nn, rfl⟩))
   have HN := Lib.hid (show MagAt ((wr.drewN (1 + nn)).setCell ⟨g, i, none⟩ (.int .u32 p)) g (setM c i p) ∧ Own g w ((wr.drewN (1 + nn)).setCell ⟨g, i, none⟩ (.int .u32 p)) from
    ⟨(HC.out.drewN (1 + nn)).set s1, (HO.out.next (bdn wr (1 + nn))).setCell i _⟩)
   clear HC HO HD c1 c2 f1 gd
   go_wp2_with fail
   go_roundw
   case rel => exact ⟨i, q, setM c i p, by omega, HS.out.1, rfl, by go_num, HS.out.2.1, HS.out.2.2, HN.out⟩
   case measure => simp [intOf]
end
end Go.Proofs.YteaahhokaffmdaaGreatDoor
