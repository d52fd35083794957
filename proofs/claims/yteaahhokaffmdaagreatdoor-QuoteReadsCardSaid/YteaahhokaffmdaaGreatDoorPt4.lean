/- What the laws lean on. -/
import Derived.Test.YteaahhokaffmdaaGreatDoorPt2
import Derived.Test.YteaahhokaffmdaaGreatDoorShelf
import Derived.Lib.ItoaNum
namespace Go.Proofs.YteaahhokaffmdaaGreatDoor
set_option linter.unusedVariables false
set_option linter.unusedSimpArgs false
section
open Go.RowKit
set_option maxHeartbeats 1000000
def bl (m : Nat) : Nat := if m = 0 then 0 else m.log2 + 1
theorem bl_lt (m : Nat) : m < 2 ^ bl m := by
 unfold bl
 split
 ·subst_vars; simp
 ·exact Nat.lt_log2_self
theorem bl_ge {m : Nat} (h : m ≠ 0) : 2 ^ (bl m - 1) ≤ m := by
 unfold bl
 rw [if_neg h]
 simpa using Nat.log2_self_le h
theorem bl_pos {m : Nat} (h : m ≠ 0) : 0 < bl m := by unfold bl; rw [if_neg h]; omega
theorem bl_le_of {m n : Nat} (h : m < 2 ^ n) : bl m ≤ n := by
 by_cases h0 : m = 0
 ·subst h0; simp [bl]
 ·have h1 := bl_ge h0
  have h2 := bl_pos h0
  have h3 : 2 ^ (bl m - 1) < 2 ^ n := Nat.lt_of_le_of_lt h1 h
  have h4 := (Nat.pow_lt_pow_iff_right (by omega : 1 < 2)).1 h3
  omega
theorem lt_of_bl {m n : Nat} (h : bl m ≤ n) : m < 2 ^ n := Nat.lt_of_lt_of_le (bl_lt m) (Nat.pow_le_pow_right (by omega) h)
theorem bl_le {m n : Nat} : bl m ≤ n ↔ m < 2 ^ n := ⟨lt_of_bl, bl_le_of⟩
theorem bl_eq {m n : Nat} (h : m < 2 ^ n) (h2 : n = 0 ∨ 2 ^ (n - 1) ≤ m) : bl m = n := by
 have h1 := bl_le_of h
 rcases h2 with rfl | h2
 ·omega
 ·rcases Nat.lt_or_ge (bl m) n with h3 | h3
  ·have := lt_of_bl (show bl m ≤ n - 1 by omega)
   omega
  ·omega
theorem bp_two (n : Nat) : bp n = 2 ^ (32 * n) := by unfold bp; rw [Nat.pow_mul]
theorem len32 {x : Nat} (h : x < 4294967296) : Lib.bitLen x = bl x := by
 by_cases h0 : x = 0
 ·subst h0; rfl
 ·obtain ⟨a, b, c⟩ := Lib.bitLenAux_bounds 64 x (Nat.lt_of_lt_of_le h (by decide)) h0
  exact (bl_eq c (Or.inr b)).symm
theorem bl_lim {m n : Nat} (h : Used m n) (hn : n ≠ 0) : bl m = 32 * (n - 1) + bl (lim m (n - 1)) := by
 obtain ⟨k, rfl⟩ : ∃ k, n = k + 1 := ⟨n - 1, by omega⟩
 obtain ⟨h1, h2⟩ := h
 have h2 := h2.resolve_left (by omega)
 rw [show k + 1 - 1 = k by omega] at h2 ⊢
 have e : lim m k = m / bp k := lim_top h1
 rw [e]
 have hp := bp_pos k
 have q0 : m / bp k ≠ 0 := by
  have := (Nat.le_div_iff_mul_le hp).2 (show 1 * bp k ≤ m by omega)
  omega
 have a := bl_lt (m / bp k)
 have b := bl_ge q0
 have c := bl_pos q0
 apply bl_eq
 ·rw [Nat.pow_add, ← bp_two, Nat.mul_comm]
  exact (Nat.div_lt_iff_lt_mul hp).1 a
 ·right
  rw [show 32 * k + bl (m / bp k) - 1 = 32 * k + (bl (m / bp k) - 1) by omega, Nat.pow_add, ← bp_two, Nat.mul_comm]
  exact (Nat.le_div_iff_mul_le hp).1 b
theorem bl_1024 {m : Nat} (h : m < bp 32) : bl m ≤ 1024 := bl_le_of (by rw [bp_two, show 32 * 32 = 1024 from rfl] at h; exact h)
theorem mbits_any {m g : Nat} {w : World} (hm : MagAt w g m) (lm : m < bp 32) : Calls Tryz.prog 243 #[.pointer (some ⟨g, 0, none⟩)] w (RetB (.int .i64 (bl m)) w) := by
 obtain ⟨n, hn, hun⟩ := used_ex m lm
 have u1 := used_any hm lm hun
 have HM := Lib.hid hm
 have HU := Lib.hid hun
 clear hm hun
 go_enter Tryz.func243, Tryz.ntmps243
 go_wp2_with fail
 refine u1.mono ?_
 rintro e1 w1 ⟨rfl, hb1⟩
 have HB1 := Lib.hid hb1
 have HM1 := Lib.hid (HM.out.next hb1)
 clear hb1 u1 HM
 by_cases h0 : n = 0
 ·subst h0
  have hm0 : m = 0 := by
   have := HU.out.1
   rw [bp_zero] at this
   omega
  subst hm0
  go_wp2_with fail
  go_ret
  exact ⟨rfl, HB1.out⟩
 ·obtain ⟨k, rfl⟩ : ∃ k, n = k + 1 := ⟨n - 1, by omega⟩
  have hb := bl_lim HU.out h0
  rw [show k + 1 - 1 = k by omega] at hb
  have hx1 := lim_lt m k
  have c1 := HM1.out.cell (show k < 32 by omega)
  obtain ⟨x, hx⟩ : ∃ x, lim m k = x := ⟨_, rfl⟩
  rw [hx] at hb hx1 c1
  have gl := fun w => Tryz.bits_Len32 (x : Int) w (by omega) (by omega)
  rw [Int.toNat_natCast, len32 hx1] at gl
  have hbx : bl x ≤ 32 := bl_le_of hx1
  have e1 : ((k + 1 : Nat) : Int) - 1 = (k : Int) := by omega
  obtain ⟨z, hz⟩ : ∃ z, bl x = z := ⟨_, rfl⟩
  rw [hz] at gl hb hbx
  have HR := Lib.hid hb
  clear hx hz hb
  go_wp2_with fail
  refine (gl _).mono ?_
  rintro e2 w2 ⟨rfl, rfl⟩
  go_wp2_with fail
  go_ret
  exact ⟨ret_int (by rw [HR.out]; go_num), HB1.out⟩
theorem bits_any {neg : Bool} {m : Nat} (hm : m < bp 32) (w : World) : Calls Tryz.prog 225 #[.agg (intC neg m)] w (RetB (.int .i64 (bl m)) w) := by
 have g1 := fun w => splitC (neg := neg) hm w
 have g2 := fun {g : Nat} {w : World} (h : MagAt w g m) => mbits_any h hm
 have HI := Lib.hid (BlkAt.new w (intC neg m) 29)
 have HB := Lib.hid (bal0 w (.cells (intC neg m) 29))
 clear hm
 go_enter Tryz.func225, Tryz.ntmps225
 go_wp2_with (((with_reducible refine wpl_load rfl 29 _ rfl _ ?_ HI.out (rowInt _ _) ?_); exact rfl))
 refine (g1 _).mono ?_
 rintro e w1 ⟨rfl, hb⟩
 have HB1 := Lib.hid (bal (bnext HB.out hb) (.cells (limA 32 m) 155))
 have HM1 := Lib.hid (show MagAt (w1.alloc (.cells (limA 32 m) 155)) w1.heap.size m from BlkAt.new _ _ _)
 clear hb g1 HI HB
 go_wp2_with (((with_reducible refine wpl_store_new rfl 155 _ _ rfl (limA 32 m) ?_ ?_ (rowMag _) ?_ ?_); exact rfl; exact rfl; exact rfl))
 refine (g2 HM1.out).mono ?_
 rintro e w2 ⟨rfl, hb⟩
 have HB2 := Lib.hid (bnext HB1.out hb)
 clear hb HB1 HM1
 go_wp2_with fail
 go_ret
 exact ⟨rfl, HB2.out⟩
end
section
open Go.RowKit
def IC (z : Int) : Array Value := intC (decide (z < 0)) z.natAbs
theorem IC_size (z : Int) : (IC z).size = 33 := intC_size _ _
theorem rowIC (z : Int) : RowV Tryz.prog 29 (IC z) := rowInt _ _
theorem tR1 {T : TypeId} {cs : Array Value} (h : RowV Tryz.prog T cs := by first | (with_reducible exact rowInt _ _) | (with_reducible exact rowIC _) | (with_reducible exact rowMag _)) : RowV Tryz.prog T cs := h
theorem tS1 {a b : Nat} (h : a = b := by first | (focus (simp only [IC_size, intC_size, limA_size]; done)) | with_unfolding_all exact rfl) : a = b := h
theorem canB_eq {n : Bool} {m : Nat} {z : Int} (hm : m = z.natAbs) (h1 : z < 0 → n = true) (h2 : 0 < z → n = false) : canB n m = decide (z < 0) := by
 subst hm
 unfold canB
 rcases Int.lt_trichotomy z 0 with h | h | h
 ·have h3 : z.natAbs ≠ 0 := by omega
  rw [h1 h, decide_eq_false h3, decide_eq_true h]
  rfl
 ·subst h
  simp
 ·have h4 : ¬ z < 0 := by omega
  rw [h2 h, decide_eq_false h4]
  rfl
theorem canB_z (z : Int) : canB (decide (z < 0)) z.natAbs = decide (z < 0) := canB_eq rfl (fun h => decide_eq_true h) (fun h => decide_eq_false (by omega))
theorem addI_z {x y : Int} (h : (x + y).natAbs < bp 32) : addI (decide (x < 0)) x.natAbs (decide (y < 0)) y.natAbs = (decide (x + y < 0), (x + y).natAbs, 0) := by
 unfold addI
 rw [canB_z, canB_z]
 by_cases hx : x < 0 <;> by_cases hy : y < 0
 ·have e : x.natAbs + y.natAbs = (x + y).natAbs := by omega
  rw [decide_eq_true hx, decide_eq_true hy, if_neg (by simp), if_pos (by omega), e, canB_eq rfl (fun _ => rfl) (by omega)]
 ·rw [decide_eq_true hx, decide_eq_false hy, if_pos (by simp)]
  by_cases hl : x.natAbs < y.natAbs
  ·have e : y.natAbs - x.natAbs = (x + y).natAbs := by omega
   rw [if_pos hl, e, canB_eq (z := x + y) rfl (by omega) (fun _ => by cases h : canB false y.natAbs <;> simp_all [canB])]
  ·have e : x.natAbs - y.natAbs = (x + y).natAbs := by omega
   rw [if_neg hl, e, canB_eq (z := x + y) rfl (fun h => by simp) (by omega)]
 ·rw [decide_eq_false hx, decide_eq_true hy, if_pos (by simp)]
  by_cases hl : x.natAbs < y.natAbs
  ·have e : y.natAbs - x.natAbs = (x + y).natAbs := by omega
   rw [if_pos hl, e, canB_eq (z := x + y) rfl (fun h => by simp) (by omega)]
  ·have e : x.natAbs - y.natAbs = (x + y).natAbs := by omega
   rw [if_neg hl, e, canB_eq (z := x + y) rfl (by omega) (fun h => by simp)]
 ·have e : x.natAbs + y.natAbs = (x + y).natAbs := by omega
  rw [decide_eq_false hx, decide_eq_false hy, if_neg (by simp), if_pos (by omega), e, canB_eq (z := x + y) rfl (by omega) (fun _ => by simp)]
theorem mulI_z {x y : Int} (h : (x * y).natAbs < bp 32) : mulI (decide (x < 0)) x.natAbs (decide (y < 0)) y.natAbs = (decide (x * y < 0), (x * y).natAbs, 0) := by
 unfold mulI
 have e : x.natAbs * y.natAbs = (x * y).natAbs := (Int.natAbs_mul x y).symm
 rw [canB_z, canB_z, e, if_pos h]
 refine Prod.ext (canB_eq rfl (fun hn => ?_) (fun hp => ?_)) rfl
 ·by_cases hx : x < 0 <;> by_cases hy : y < 0
  ·have := Int.mul_pos_of_neg_of_neg hx hy
   omega
  ·simp [hx, hy]
  ·simp [hx, hy]
  ·have := Int.mul_nonneg (show 0 ≤ x by omega) (show 0 ≤ y by omega)
   omega
 ·by_cases hx : x < 0 <;> by_cases hy : y < 0
  ·simp [hx, hy]
  ·have := Int.mul_nonpos_of_nonpos_of_nonneg (show x ≤ 0 by omega) (show 0 ≤ y by omega)
   omega
  ·have := Int.mul_nonpos_of_nonneg_of_nonpos (show 0 ≤ x by omega) (show y ≤ 0 by omega)
   omega
  ·simp [hx, hy]
theorem sgN_z (z : Int) : sgN (decide (z < 0)) z.natAbs = z.sign := by
 unfold sgN
 rcases Int.lt_trichotomy z 0 with h | h | h
 ·rw [if_neg (by omega), if_pos (decide_eq_true h), Int.sign_eq_neg_one_of_neg h]
 ·subst h
  rfl
 ·rw [if_neg (by omega), if_neg (by simp; omega), Int.sign_eq_one_of_pos h]
def cmpZ (x y : Int) : Int := if x < y then -1 else if y < x then 1 else 0
theorem cmpI_z (x y : Int) : cmpI (decide (x < 0)) x.natAbs (decide (y < 0)) y.natAbs = cmpZ x y := by
 unfold cmpI
 rw [sgN_z, sgN_z]
 unfold cmpZ cmpN
 rcases Int.lt_trichotomy x 0 with h | h | h <;> rcases Int.lt_trichotomy y 0 with k | k | k
 all_goals first | rw [Int.sign_eq_neg_one_of_neg h] | rw [Int.sign_eq_one_of_pos h] | rw [h, Int.sign_zero]
 all_goals first | rw [Int.sign_eq_neg_one_of_neg k] | rw [Int.sign_eq_one_of_pos k] | rw [k, Int.sign_zero]
 all_goals (repeat' split) <;> omega
section
variable {x y : Int}
theorem addZ (hx : x.natAbs < bp 32) (hy : y.natAbs < bp 32) (h : (x + y).natAbs < bp 32) (w : World) : Calls Tryz.prog 187 #[.agg (IC x), .agg (IC y)] w (RetB (.tuple #[.agg (IC (x + y)), .int .i64 0]) w) := add_any hx hy (addI_z h) w
theorem mulZ (hx : x.natAbs < bp 32) (hy : y.natAbs < bp 32) (h : (x * y).natAbs < bp 32) (w : World) : Calls Tryz.prog 139 #[.agg (IC x), .agg (IC y)] w (RetB (.tuple #[.agg (IC (x * y)), .int .i64 0]) w) := mul_any hx hy (mulI_z h) w
theorem signZ (hx : x.natAbs < bp 32) (w : World) : Calls Tryz.prog 93 #[.agg (IC x)] w (RetB (.int .i64 x.sign) w) := sign_any hx (sgN_z x) w
theorem cmpZ_ok (hx : x.natAbs < bp 32) (hy : y.natAbs < bp 32) (w : World) : Calls Tryz.prog 171 #[.agg (IC x), .agg (IC y)] w (RetB (.int .i64 (cmpZ x y)) w) := cmpInt_any hx hy (cmpI_z x y) w
theorem negZ (hx : x.natAbs < bp 32) (w : World) : Calls Tryz.prog 130 #[.agg (IC x)] w (RetB (.agg (IC (-x))) w) := by
 unfold IC
 rw [Int.natAbs_neg]
 refine neg_any hx ?_ w
 rcases Int.lt_trichotomy x 0 with h | h | h
 ·rw [decide_eq_true h, decide_eq_false (show ¬ x.natAbs = 0 by omega), decide_eq_false (show ¬ -x < 0 by omega)]
  rfl
 ·subst h
  rfl
 ·have h3 : x.natAbs ≠ 0 := by omega
  rw [decide_eq_false (show ¬ x < 0 by omega), decide_eq_false h3, decide_eq_true (by omega)]
  rfl
theorem splitZ (hx : x.natAbs < bp 32) (w : World) : Calls Tryz.prog 141 #[.agg (IC x)] w (RetB (.tuple #[.bool (decide (x < 0)), .agg (limA 32 x.natAbs)]) w) := by
 have h := splitC (neg := decide (x < 0)) hx w
 rw [canB_z] at h
 exact h
theorem madeZ {n : Bool} {m : Nat} (hm : m < bp 32) (hx : m = x.natAbs) (h1 : x < 0 → n = true) (h2 : 0 < x → n = false) (w : World) : Calls Tryz.prog 185 #[.bool n, .agg (limA 32 m)] w (RetB (.agg (IC x)) w) := by
 have h := madeC (neg := n) hm w
 rw [canB_eq hx h1 h2] at h
 subst hx
 exact h
end
end
section
open Go.RowKit
section
variable {op : Op} {a : Act} {w W : World} {F F' A L : List Ent} {b k : Nat} {cs ds cs' : Array Value} {t T : TypeId} {x y : Operand}
theorem jY1 {p : Prop} (h : p := by (first
 | (apply yL; exact rfl; exact tL; exact tR1)
 | exact yB_int0
 | exact yB_mag0
 | exact yB_mag1
 | exact yB_int rfl rfl)) : p := h
theorem kY1 {p q : Prop} (h : p ∧ q := by (refine ⟨?_, ?_⟩; exact rfl; exact jY1)) : p ∧ q := h
theorem jT1 {p : Prop} (h : p := by (first
 | (apply sS; exact rfl; exact rfl; exact tL; exact tR1; exact tS1; (simp only [z7, z8]; exact rfl)))) : p := h
theorem kT1 {p q : Prop} (h : p ∧ q := by (refine ⟨?_, ?_⟩; exact rfl; exact jT1)) : p ∧ q := h
end
section
variable {P : Program} {op : Op} {a : Act} {w W : World} {F F' : List Ent} {v : Value} {Q : Exit → Act → World → Prop} {ops : Array Oper} {rest : List Oper} {dst : Option Tmp} {ty : TypeId} {pos : String} {af : Array Edge} {gd : Option (Nat × Bool)} {cs : Array Value} {t : TypeId}
theorem aY1 (hk : wpList P ops Q rest (a.put dst v) W) (h : Fr w W F := by exact F) (hc : Region.wanted ⟨dst, op, ty, pos, af, gd⟩ (yielded ops a.tmps) = true ∧ Yld P op a F v := by exact kY1) : wpList P ops Q (⟨dst, op, ty, pos, af, gd⟩ :: rest) a W := fY h hc hk
theorem aT1 (hk : ∀ W', Fr w W' F' → wpList P ops Q rest a W') (h : Fr w W F := by exact F) (hc : Region.wanted ⟨none, op, ty, pos, af, gd⟩ (yielded ops a.tmps) = true ∧ Str P op a F F' := by exact kT1) : wpList P ops Q (⟨none, op, ty, pos, af, gd⟩ :: rest) a W := fT h hc hk
end
theorem oY1 {p : Prop} (h : p := by (refine ow rfl rfl fun K hK => ?_; (with_reducible apply gY HF); exact jY1; go_simp; exact hK _ _ dK)) : p := h
theorem oY1o {p : Prop} (h : p := by (refine ow rfl rfl fun K hK => ?_; (with_reducible apply gY HF); exact jY1; (rw [← hold] at HF); go_simp; exact hK _ _ dK)) : p := h
theorem oT1 {p : Prop} (h : p := by (refine ow rfl rfl fun K hK => ?_; (with_reducible apply gS HF); exact rfl; exact rfl; exact tL; exact tR1; (first | with_reducible assumption | exact tS1); exact oU)) : p := h
end
section
theorem lim_testBit (m i t : Nat) : (lim m i).testBit t = (decide (t < 32) && m.testBit (32 * i + t)) := by
 have e : lim m i = (m >>> (32 * i)) % 2 ^ 32 := by
  unfold lim
  rw [Nat.shiftRight_eq_div_pow, bp_two]
 rw [e, Nat.testBit_mod_two_pow, Nat.testBit_shiftRight]
theorem lim_shl {x s i : Nat} (hs : s < 32) : lim (x * 2 ^ s) (i + 1) = (lim x (i + 1) * 2 ^ s) % 4294967296 ||| lim x i / 2 ^ (32 - s) := by
 rw [show (4294967296 : Nat) = 2 ^ 32 from rfl, ← Nat.shiftLeft_eq, ← Nat.shiftLeft_eq, ← Nat.shiftRight_eq_div_pow]
 apply Nat.eq_of_testBit_eq
 intro t
 rw [Nat.testBit_or, Nat.testBit_mod_two_pow, Nat.testBit_shiftLeft, Nat.testBit_shiftRight, lim_testBit, lim_testBit, lim_testBit, Nat.testBit_shiftLeft]
 by_cases h1 : t < 32
 ·by_cases h2 : s ≤ t
  ·have a1 : s ≤ 32 * (i + 1) + t := by omega
   have a2 : 32 * (i + 1) + t - s = 32 * (i + 1) + (t - s) := by omega
   have a3 : t - s < 32 := by omega
   have a4 : ¬ (32 - s + t < 32) := by omega
   simp [h1, h2, a1, a2, a3, a4]
  ·have a1 : s ≤ 32 * (i + 1) + t := by omega
   have a2 : 32 * (i + 1) + t - s = 32 * i + (32 - s + t) := by omega
   have a4 : 32 - s + t < 32 := by omega
   simp [h1, h2, a1, a2, a4]
 ·have a4 : ¬ (32 - s + t < 32) := by omega
  simp [h1, a4]
theorem lim_shl0 {x s : Nat} (hs : s < 32) : lim (x * 2 ^ s) 0 = (lim x 0 * 2 ^ s) % 4294967296 := by
 unfold lim
 rw [bp_zero, Nat.div_one, Nat.div_one, Nat.mod_mul_mod]
theorem lim_shr {x s i : Nat} (h0 : 0 < s) (hs : s < 32) : lim (x / 2 ^ s) i = lim x i / 2 ^ s ||| (lim x (i + 1) * 2 ^ (32 - s)) % 4294967296 := by
 rw [show (4294967296 : Nat) = 2 ^ 32 from rfl, ← Nat.shiftLeft_eq, ← Nat.shiftRight_eq_div_pow, ← Nat.shiftRight_eq_div_pow]
 apply Nat.eq_of_testBit_eq
 intro t
 rw [Nat.testBit_or, Nat.testBit_mod_two_pow, Nat.testBit_shiftLeft, Nat.testBit_shiftRight, lim_testBit, lim_testBit, lim_testBit, Nat.testBit_shiftRight]
 by_cases h1 : t < 32
 ·by_cases h2 : s + t < 32
  ·have a2 : s + (32 * i + t) = 32 * i + (s + t) := by omega
   have a4 : ¬ (32 - s ≤ t) := by omega
   simp [h1, h2, a2, a4]
  ·have a2 : s + (32 * i + t) = 32 * (i + 1) + (t - (32 - s)) := by omega
   have a3 : t - (32 - s) < 32 := by omega
   have a4 : 32 - s ≤ t := by omega
   simp [h1, h2, a2, a3, a4]
 ·have a4 : ¬ (s + t < 32) := by omega
  simp [h1, a4]
theorem top_step {v i : Nat} : setM (v / bp (i + 1) * bp (i + 1)) i (lim v i) = v / bp i * bp i := by
 unfold setM
 have e1 : v / bp (i + 1) * bp (i + 1) / bp (i + 1) = v / bp (i + 1) := Nat.mul_div_cancel _ (bp_pos _)
 have e2 : v / bp (i + 1) * bp (i + 1) % bp i = 0 := by
  rw [bp_succ, Nat.mul_comm (bp i), ← Nat.mul_assoc, Nat.mul_mod_left]
 rw [e1, e2, div_succ v i, Nat.add_mul, bp_succ, Nat.add_zero, Nat.mul_assoc, Nat.mul_comm 4294967296]
theorem top_lim {v i : Nat} : lim (v / bp (i + 1) * bp (i + 1)) i = 0 := by
 unfold lim
 rw [bp_succ, Nat.mul_comm (bp i), ← Nat.mul_assoc, Nat.mul_div_cancel _ (bp_pos _), Nat.mul_mod_left]
theorem setM_setM {c i p o : Nat} (hp : p < 4294967296) : setM (setM c i p) i o = setM c i o := by
 unfold setM
 have e1 : (c / bp (i + 1) * bp (i + 1) + p * bp i + c % bp i) / bp (i + 1) = c / bp (i + 1) := setM_high (m := c) (i := i) hp
 have e2 : (c / bp (i + 1) * bp (i + 1) + p * bp i + c % bp i) % bp i = c % bp i := setM_mod (m := c) (i := i) (d := p)
 rw [e1, e2]
theorem setM_self {c i : Nat} : setM c i (lim c i) = c := by
 have h := setM_add c i (lim c i)
 omega
theorem top_zero {v i : Nat} : setM (v / bp (i + 1) * bp (i + 1)) i 0 = v / bp (i + 1) * bp (i + 1) := by
 have h := setM_self (c := v / bp (i + 1) * bp (i + 1)) (i := i)
 rwa [top_lim] at h
theorem comb_div {t l j : Nat} (hl : l < bp j) : (t * bp j + l) / bp j = t := by
 rw [Nat.mul_comm, Nat.mul_add_div (bp_pos j), Nat.div_eq_of_lt hl, Nat.add_zero]
theorem comb_mod {t l j : Nat} (hl : l < bp j) : (t * bp j + l) % bp j = l := by
 rw [Nat.mul_comm, Nat.mul_add_mod, Nat.mod_eq_of_lt hl]
theorem comb_set {t l i j d : Nat} (hl : l < bp j) : setM (t * bp j + l) (j + i) d = setM t i d * bp j + l := by
 obtain ⟨h1, h2⟩ := setM_slice (W := t * bp j + l) (i := i) (j := j) (d := d)
 rw [comb_div hl] at h1
 rw [comb_mod hl] at h2
 have h3 := div_mod_bp (setM (t * bp j + l) (j + i) d) j
 rw [h1, h2] at h3
 exact h3
theorem comb_lim {t l i j : Nat} (hl : l < bp j) : lim (t * bp j + l) (j + i) = lim t i := by rw [lim_slice, comb_div hl]
theorem comb_self (u j : Nat) : u = u / bp j * bp j + u % bp j := div_mod_bp u j
theorem quo_set {q j d : Nat} (h : q % bp (j + 1) = 0) (hd : d < 4294967296) : setM q j d = q + d * bp j ∧ setM q j d % bp j = 0 := by
 have h1 := setM_add q j d
 have h2 : lim q j = 0 := by
  rw [← lim_mod (Nat.lt_succ_self j), h, lim_zero]
 rw [h2, Nat.zero_mul, Nat.add_zero] at h1
 refine ⟨h1, ?_⟩
 rw [setM_mod]
 have h3 : q % bp j = q % bp (j + 1) % bp j := by rw [bp_succ, Nat.mod_mul_right_mod]
 rw [h3, h, Nat.zero_mod]
theorem shift_div {b n s : Nat} (hu : Used b n) (hn : n ≠ 0) (hs : s = 32 - bl (lim b (n - 1))) : s < 32 ∧ b * 2 ^ s < bp n ∧ bp n ≤ 2 * (b * 2 ^ s) := by
 have hb := bl_lim hu hn
 have hx := lim_lt b (n - 1)
 have h32 : bl (lim b (n - 1)) ≤ 32 := bl_le_of hx
 have h0 : b ≠ 0 := by
  intro h
  subst h
  exact hn (Used.zero.1 hu)
 have hpos : bl (lim b (n - 1)) ≠ 0 := by
  intro h
  have hz := bl_lt (lim b (n - 1))
  rw [h] at hz
  have h1 := hu.2.resolve_left hn
  obtain ⟨k, rfl⟩ : ∃ k, n = k + 1 := ⟨n - 1, by omega⟩
  rw [show k + 1 - 1 = k by omega, lim_top hu.1] at hz
  rw [show k + 1 - 1 = k by omega] at h1
  have h2 := (Nat.le_div_iff_mul_le (bp_pos k)).2 (show 1 * bp k ≤ b by omega)
  omega
 have hbl := bl_lt b
 have hbg := bl_ge h0
 have hbp := bl_pos h0
 refine ⟨by omega, ?_, ?_⟩
 ·rw [bp_two, show 32 * n = bl b + s by omega, Nat.pow_add]
  exact Nat.mul_lt_mul_of_pos_right hbl (Nat.two_pow_pos s)
 ·rw [bp_two, show 32 * n = (bl b - 1) + s + 1 by omega, Nat.pow_succ, Nat.pow_add, Nat.mul_comm _ 2]
  exact Nat.mul_le_mul_left 2 (Nat.mul_le_mul_right _ hbg)
theorem shift_num {a m s : Nat} (ha : a < bp m) (hs : s < 32) : a * 2 ^ s < bp (m + 1) := by
 rw [bp_succ]
 have h2 : 2 ^ s < 4294967296 := by
  rw [show (4294967296 : Nat) = 2 ^ 32 from rfl]
  exact (Nat.pow_lt_pow_iff_right (by omega)).2 hs
 exact Nat.mul_lt_mul_of_lt_of_lt ha h2
theorem shift_first {a b m n s : Nat} (ha : a < bp m) (hs : s < 32) (hv : bp n ≤ 2 * (b * 2 ^ s)) (hn : n ≤ m) : a * 2 ^ s < b * 2 ^ s * bp (m - n + 1) := by
 have h2 : 2 ^ s * 2 ≤ 4294967296 := by
  rw [← Nat.pow_succ, show (4294967296 : Nat) = 2 ^ 32 from rfl]
  exact Nat.pow_le_pow_right (by omega) (by omega)
 have h3 : bp m * 4294967296 ≤ 2 * (b * 2 ^ s) * bp (m - n + 1) := by
  have e : bp m * 4294967296 = bp n * bp (m - n + 1) := by rw [← bp_succ, ← bp_add]; congr 1; omega
  rw [e]
  exact Nat.mul_le_mul_right _ hv
 have h4 : a * 2 ^ s * 2 < bp m * 4294967296 := by
  rw [Nat.mul_assoc]
  refine Nat.lt_of_lt_of_le (Nat.mul_lt_mul_of_pos_right ha ?_) (Nat.mul_le_mul_left _ h2)
  have := Nat.two_pow_pos s
  omega
 rw [Nat.mul_assoc 2] at h3
 omega
theorem shift_done {a b s q u : Nat} (hb : 0 < b) (h : a * 2 ^ s = q * (b * 2 ^ s) + u) (hu : u < b * 2 ^ s) : q = a / b ∧ u / 2 ^ s = a % b := by
 have h2 := Nat.two_pow_pos s
 have e1 : (a * 2 ^ s) / (b * 2 ^ s) = q := by
  rw [h, Nat.mul_comm q, Nat.mul_add_div (by exact Nat.mul_pos hb h2), Nat.div_eq_of_lt hu, Nat.add_zero]
 have e2 : (a * 2 ^ s) % (b * 2 ^ s) = u := by
  rw [h, Nat.mul_comm q, Nat.mul_add_mod, Nat.mod_eq_of_lt hu]
 rw [Nat.mul_div_mul_right _ _ h2] at e1
 rw [Nat.mul_mod_mul_right] at e2
 exact ⟨e1.symm, by rw [← e2, Nat.mul_div_cancel _ h2]⟩
end
end Go.Proofs.YteaahhokaffmdaaGreatDoor
