/- What the laws lean on. -/
import Derived.Test.YteaahhokaffmdaaGreatDoorPt11
import Derived.Laws.RangeString
import Derived.Lib.Strings
import Derived.Laws.RangeAny
import Derived.Lib.SlBytesConst
namespace Go.Proofs.YteaahhokaffmdaaGreatDoor
set_option linter.unusedVariables false
set_option linter.unusedSimpArgs false
section
open Go.RowKit
set_option maxHeartbeats 4000000
def sgnR (v : Prop) [Decidable v] (n : Int) : Int × Int := if v then (n.sign, 0) else (0, 20)
def cmpR (v : Prop) [Decidable v] (n d m : Int) : Int × Int := if v then (cmpZ (n * 1) (m * d), 0) else (0, 20)
theorem ten9 : (1000000000 : Int).natAbs < bp 15 := Nat.lt_of_lt_of_le (by decide) bp15_big
theorem one15 : (1 : Int).natAbs < bp 15 := Nat.lt_of_lt_of_le (by decide) bp15_big
theorem zero15 : (0 : Int).natAbs < bp 15 := Nat.lt_of_lt_of_le (by decide) bp15_big
section
variable {x : Bool} {a : Nat} {y : Bool} {b : Nat}
set_option maxRecDepth 100000 in
theorem rsgn_any (ha : a < bp 32) (hb : b < bp 32) {r : Int × Int} (hr : sgnR (okR x a y b) (sZ x a) = r) (w : World) : Calls Tryz.prog 112 #[.agg (ratC x a y b)] w (RetB (.tuple #[.int .i64 r.1, .int .i64 r.2]) w) := by
 have F := Fr.start w
 unfold sgnR at hr
 by_cases h : okR x a y b
 ·rw [if_pos h] at hr
  have g1 := fun w => valid_any ha hb (decide_eq_true h) w
  obtain ⟨n, d, ⟨e, e1, e2⟩, hn, hd, -⟩ := okR_ints h
  rw [e1] at hr
  rw [e] at g1 ⊢
  subst hr
  have g2 := fun w => signZ (b15 hn) w
  generalize n.sign = s at *
  clear h hn hd e1 e2 e
  go_enter Tryz.func112, Tryz.ntmps112
  go_wp2_with (first | go_skip | refine aY3 ?_ | (refine aT3 ?_; clear F; intro W F) | refine aN3 ?_)
  (clear F; intro b1 W F; try simp only [Act.put, z6, z1, z2])
  go_wp2_with (first | go_skip | ((go_at_call 129); (with_reducible refine fr_call F (g1 _) ?_); (clear F; intro W F); (try dsimp only)) | ((go_at_call 93); (with_reducible refine fr_call F (g2 _) ?_); (clear F; intro W F); (try dsimp only)) | refine aY3 ?_ | (refine aT3 ?_; clear F; intro W F) | refine aN3 ?_)
  go_ret2
  exact ⟨rfl, F.below⟩
 ·rw [if_neg h] at hr
  subst hr
  have g1 := fun w => valid_any ha hb (decide_eq_false h) w
  clear h
  go_enter Tryz.func112, Tryz.ntmps112
  go_wp2_with (first | go_skip | refine aY3 ?_ | (refine aT3 ?_; clear F; intro W F) | refine aN3 ?_)
  (clear F; intro b1 W F; try simp only [Act.put, z6, z1, z2])
  go_wp2_with (first | go_skip | ((go_at_call 129); (with_reducible refine fr_call F (g1 _) ?_); (clear F; intro W F); (try dsimp only)) | refine aY3 ?_ | (refine aT3 ?_; clear F; intro W F) | refine aN3 ?_)
  go_ret2
  exact ⟨rfl, F.below⟩
set_option maxRecDepth 100000 in
theorem rcmp_ok (ha : a < bp 32) (hb : b < bp 32) {r : Int × Int} (hr : cmpR (okR x a y b) (sZ x a) (sZ y b) 1000000000 = r) (w : World) : Calls Tryz.prog 113 #[.agg (ratC x a y b), .agg (RC 1000000000 1)] w (RetB (.tuple #[.int .i64 r.1, .int .i64 r.2]) w) := by
 have F := Fr.start w
 unfold cmpR at hr
 by_cases h : okR x a y b
 ·rw [if_pos h] at hr
  have g1 := fun w => valid_any ha hb (decide_eq_true h) w
  have v2 : ∀ w, Calls Tryz.prog 129 #[.agg (RC 1000000000 1)] w (RetB (.bool true) w) := fun w => valid_any (b15 ten9) (b15 one15) (decide_eq_true (okZ_one ten9)) w
  obtain ⟨n, d, ⟨e, e1, e2⟩, hn, hd, -⟩ := okR_ints h
  rw [e1, e2] at hr
  rw [e] at g1 ⊢
  have g2 := fun w => productZ (b15 hn) (b15 one15) (b30 hn one15) w
  have g3 := fun w => productZ (b15 ten9) (b15 hd) (b30 ten9 hd) w
  have g4 := fun w => cmpZ_ok (b30 hn one15) (b30 ten9 hd) w
  obtain ⟨p, hp⟩ : ∃ p, n * 1 = p := ⟨_, rfl⟩
  obtain ⟨q, hq⟩ : ∃ q, 1000000000 * d = q := ⟨_, rfl⟩
  rw [hp] at g2 g4 hr
  rw [hq] at g3 g4 hr
  subst hr
  generalize cmpZ p q = c at *
  obtain ⟨T, hT⟩ : ∃ T : Int, 1000000000 = T := ⟨_, rfl⟩
  rw [hT] at v2 g3 ⊢
  clear h hn hd e1 e2 e hp hq hT
  go_enter Tryz.func113, Tryz.ntmps113
  go_wp2_with (first | go_skip | refine aY3 ?_ | (refine aT3 ?_; clear F; intro W F) | refine aN3 ?_)
  (clear F; intro b2 W F; try simp only [Act.put, z6, z1, z2])
  go_wp2_with (first | go_skip | refine aY3 ?_ | (refine aT3 ?_; clear F; intro W F) | refine aN3 ?_)
  (clear F; intro b3 W F; try simp only [Act.put, z6, z1, z2])
  go_wp2_with (first | go_skip | ((go_at_call 129); (with_reducible refine fr_call F (g1 _) ?_); (clear F; intro W F); (try dsimp only)) | ((go_at_call 129); (with_reducible refine fr_call F (v2 _) ?_); (clear F; intro W F); (try dsimp only)) | refine aY3 ?_ | (refine aT3 ?_; clear F; intro W F) | refine aN3 ?_)
  try simp only [Act.put, z6, z1, z2]
  refine wp_region_slots mixP [4, 5, 14, 15, 16, 17, 18, 19, 20, 21, 22, 23, 24] (fun l mm W => ∃ (s4 s5 s14 s15 s16 s17 s18 s19 s20 s21 s22 s23 s24 : Value), mm = [s4, s5, s14, s15, s16, s17, s18, s19, s20, s21, s22, s23, s24] ∧ Fr w W [(b3, RC T 1, 31), (b2, RC n d, 31)] ∧ On l 0 [s14 = .pointer (some ⟨b2, 0, none⟩), s15 = .agg (IC n), s16 = .pointer (some ⟨b3, 33, none⟩), s17 = .agg (IC 1), s18 = .agg (IC p), s19 = .pointer (some ⟨b3, 0, none⟩), s20 = .agg (IC T), s21 = .pointer (some ⟨b2, 33, none⟩), s22 = .agg (IC d), s23 = .agg (IC q), s24 = .int .i64 c, s4 = .int .i64 c, s5 = .int .i64 0] ∧ True) (by kernel_rfl) (putAll_self _ _) ?_ ?_ ?_
  ·exact ⟨_, _, _, _, _, _, _, _, _, _, _, _, _, rfl, F.drew, On.none _ _ _, dT⟩
  ·rintro listed mm W ii hi hsz hoff ⟨s4, s5, s14, s15, s16, s17, s18, s19, s20, s21, s22, s23, s24, rfl, HF, hH, -⟩ hd
   simp only [putAll, z1, z2]
   obtain rfl | rfl | rfl | rfl | rfl | rfl | rfl | rfl | rfl | rfl | rfl | rfl | rfl := dr_c13 hi
   ·exact oP
   ·obtain rfl : s14 = _ := dh 0 hH hd
    exact oY3
   ·exact oP
   ·obtain rfl : s16 = _ := dh 2 hH hd
    exact oY3
   ·obtain rfl : s15 = _ := dh 1 hH hd
    obtain rfl : s17 = _ := dh 3 hH hd
    refine ow rfl rfl fun K hK => ?_
    refine ⟨?_⟩
    go_simp
    with_reducible refine fr_call HF (g2 _) ?_
    exact oC
   ·exact oP
   ·obtain rfl : s19 = _ := dh 5 hH hd
    exact oY3
   ·exact oP
   ·obtain rfl : s21 = _ := dh 7 hH hd
    exact oY3
   ·obtain rfl : s20 = _ := dh 6 hH hd
    obtain rfl : s22 = _ := dh 8 hH hd
    refine ow rfl rfl fun K hK => ?_
    refine ⟨?_⟩
    go_simp
    with_reducible refine fr_call HF (g3 _) ?_
    exact oC
   ·obtain rfl : s18 = _ := dh 4 hH hd
    obtain rfl : s23 = _ := dh 9 hH hd
    refine ow rfl rfl fun K hK => ?_
    refine ⟨?_⟩
    go_simp
    with_reducible refine fr_call HF (g4 _) ?_
    exact oC
   ·obtain rfl : s24 = _ := dh 10 hH hd
    exact oP
   ·exact oP
  rintro listed mm W ⟨s4, s5, s14, s15, s16, s17, s18, s19, s20, s21, s22, s23, s24, rfl, HF, hH, -⟩ hall
  obtain ⟨rfl, rfl, rfl, rfl, rfl, rfl, rfl, rfl, rfl, rfl, rfl, rfl, rfl⟩ := onA hH hall
  clear hall hH  F
  have F := HF
  clear HF
  simp only [putAll, z1, z2]
  go_wp2_with (first | go_skip | refine aY3 ?_ | (refine aT3 ?_; clear F; intro W F) | refine aN3 ?_)
  go_ret2
  exact ⟨rfl, F.below⟩
 ·rw [if_neg h] at hr
  subst hr
  have g1 := fun w => valid_any ha hb (decide_eq_false h) w
  clear h
  go_enter Tryz.func113, Tryz.ntmps113
  go_wp2_with (first | go_skip | refine aY3 ?_ | (refine aT3 ?_; clear F; intro W F) | refine aN3 ?_)
  (clear F; intro b2 W F; try simp only [Act.put, z6, z1, z2])
  go_wp2_with (first | go_skip | refine aY3 ?_ | (refine aT3 ?_; clear F; intro W F) | refine aN3 ?_)
  (clear F; intro b3 W F; try simp only [Act.put, z6, z1, z2])
  go_wp2_with (first | go_skip | ((go_at_call 129); (with_reducible refine fr_call F (g1 _) ?_); (clear F; intro W F); (try dsimp only)) | refine aY3 ?_ | (refine aT3 ?_; clear F; intro W F) | refine aN3 ?_)
  go_ret2
  exact ⟨rfl, F.below⟩
theorem txt_no {v : Prop} [Decidable v] {n d p : Int} (h : ¬ v) : (txtR v n d p).2 = 20 := by
 have e : chkE v p = 20 := by unfold chkE; rw [if_pos h]
 unfold txtR
 rw [if_pos (by rw [e]; decide), e]
theorem price_eq {v : Prop} [Decidable v] {n d e lo hi : Int} (h1 : (txtR v n d 6).2 = e) (h2 : (sgnR v n).1 = lo) (h3 : (cmpR v n d 1000000000).1 = hi) : priceB v n d = (decide (e = 0) && (decide (0 < lo) && decide (hi ≤ 0))) := by
 unfold priceB
 rw [h1]
 by_cases hv : v
 ·unfold sgnR at h2
  unfold cmpR at h3
  rw [if_pos hv] at h2 h3
  have e1 : decide (0 < n) = decide (0 < lo) := by
   rw [decide_eq_decide, ← h2]
   exact Int.sign_pos_iff.symm
  have e2 : decide (n ≤ 1000000000 * d) = decide (hi ≤ 0) := by
   rw [decide_eq_decide, ← h3, Int.mul_one]
   show _ ↔ cmpZ n (1000000000 * d) ≤ 0
   generalize 1000000000 * d = q
   unfold cmpZ
   split
   ·constructor <;> intro <;> omega
   ·split
    ·constructor <;> intro <;> omega
    ·constructor <;> intro <;> omega
  rw [e1, e2]
 ·rw [txt_no hv] at h1
  subst h1
  rfl
set_option maxRecDepth 100000 in
theorem price_any (ha : a < bp 32) (hb : b < bp 32) {f : Bool} (hf : priceB (okR x a y b) (sZ x a) (sZ y b) = f) (w : World) : Calls Tryz.prog 68 #[.agg (ratC x a y b)] w (RetB (.bool f) w) := by
 have F := Fr.start w
 obtain ⟨t, ht⟩ : ∃ t, txtR (okR x a y b) (sZ x a) (sZ y b) 6 = t := ⟨_, rfl⟩
 obtain ⟨lo, hlo⟩ : ∃ r, sgnR (okR x a y b) (sZ x a) = r := ⟨_, rfl⟩
 obtain ⟨hi, hhi⟩ : ∃ r, cmpR (okR x a y b) (sZ x a) (sZ y b) 1000000000 = r := ⟨_, rfl⟩
 have g1 := fun w => text_any ha hb ht w
 have g2 := fun w => rsgn_any ha hb hlo w
 have g3 := fun w => wholeR (n := 1000000000) (by decide) (by decide) w
 have g4 := fun w => rcmp_ok ha hb hhi w
 rw [price_eq rfl rfl rfl, ht, hlo, hhi] at hf
 obtain ⟨ts, te⟩ := t
 obtain ⟨l1, l2⟩ := lo
 obtain ⟨p1, p2⟩ := hi
 dsimp only at g1 g2 g4 hf
 have HF := Lib.hid hf
 clear hf ht hlo hhi ha hb
 generalize bs ts = tt at *
 go_enter Tryz.func68, Tryz.ntmps68
 go_wp2_with (first | go_skip | refine aY3 ?_ | (refine aT3 ?_; clear F; intro W F) | refine aN3 ?_)
 (clear F; intro b1 W F; try simp only [Act.put, z6, z1, z2])
 go_wp2_with (first | go_skip | ((go_at_call 54); (with_reducible refine fr_call F (g1 _) ?_); (clear F; intro W F); (try dsimp only)) | ((go_at_call 112); (with_reducible refine fr_call F (g2 _) ?_); (clear F; intro W F); (try dsimp only)) | refine aY3 ?_ | (refine aT3 ?_; clear F; intro W F) | refine aN3 ?_)
 try simp only [Act.put, z6, z1, z2]
 refine wp_region_slots mixP [7, 8, 19, 20, 21, 22, 23, 24] (fun l mm W => ∃ (s7 s8 s19 s20 s21 s22 s23 s24 : Value), mm = [s7, s8, s19, s20, s21, s22, s23, s24] ∧ Fr w W [(b1, ratC x a y b, 31)] ∧ On l 0 [s20 = .agg (ratC x a y b), s21 = .agg (RC 1000000000 1), s22 = .tuple #[.int .i64 p1, .int .i64 p2], s19 = .tuple #[.int .i64 p1, .int .i64 p2], s23 = .int .i64 p1, s24 = .int .i64 p2, s7 = .int .i64 p1, s8 = .int .i64 p2] ∧ True) (by kernel_rfl) (putAll_self _ _) ?_ ?_ ?_
 ·exact ⟨_, _, _, _, _, _, _, _, rfl, F.drew, On.none _ _ _, dT⟩
 ·rintro listed mm W ii hi hsz hoff ⟨s7, s8, s19, s20, s21, s22, s23, s24, rfl, HF, hH, -⟩ hd
  simp only [putAll, z1, z2]
  obtain rfl | rfl | rfl | rfl | rfl | rfl | rfl | rfl := dr_c8 hi
  ·exact oY3
  ·refine ow rfl rfl fun K hK => ?_
   refine ⟨?_⟩
   go_simp
   with_reducible refine fr_call HF (g3 _) ?_
   exact oC
  ·obtain rfl : s20 = _ := dh 0 hH hd
   obtain rfl : s21 = _ := dh 1 hH hd
   refine ow rfl rfl fun K hK => ?_
   refine ⟨?_⟩
   go_simp
   with_reducible refine fr_call HF (g4 _) ?_
   exact oC
  ·obtain rfl : s22 = _ := dh 2 hH hd
   exact oP
  ·obtain rfl : s19 = _ := dh 3 hH hd
   exact oP
  ·obtain rfl : s19 = _ := dh 3 hH hd
   exact oP
  ·obtain rfl : s23 = _ := dh 4 hH hd
   exact oP
  ·obtain rfl : s24 = _ := dh 5 hH hd
   exact oP
 rintro listed mm W ⟨s7, s8, s19, s20, s21, s22, s23, s24, rfl, HF, hH, -⟩ hall
 obtain ⟨rfl, rfl, rfl, rfl, rfl, rfl, rfl, rfl⟩ := onA hH hall
 clear hall hH  F
 have F := HF
 clear HF
 simp only [putAll, z1, z2]
 go_wp2_with (first | go_skip | refine aY3 ?_ | (refine aT3 ?_; clear F; intro W F) | refine aN3 ?_)
 all_goals go_ret
 all_goals (refine ⟨ret_bool ?_, F.below⟩; rw [← HF.out, Bool.eq_iff_iff]; clear g1 g2 g3 g4 HF; simp; try omega)
def betB (v : Prop) [Decidable v] (n d lo hi : Int) : Bool := decide v && (decide (lo * d ≤ n) && decide (n ≤ hi * d))
theorem cmpZ_ge {p q : Int} : decide (0 ≤ cmpZ p q) = decide (q ≤ p) := by
 rw [decide_eq_decide]
 unfold cmpZ
 split
 ·constructor <;> intro <;> omega
 ·split
  ·constructor <;> intro <;> omega
  ·constructor <;> intro <;> omega
theorem cmpZ_le {p q : Int} : decide (cmpZ p q ≤ 0) = decide (p ≤ q) := by
 rw [decide_eq_decide]
 unfold cmpZ
 split
 ·constructor <;> intro <;> omega
 ·split
  ·constructor <;> intro <;> omega
  ·constructor <;> intro <;> omega
set_option maxRecDepth 100000 in
theorem rbetween_any (ha : a < bp 32) (hb : b < bp 32) {lo hi : Int} (l1 : -9223372036854775808 ≤ lo) (l2 : lo < 9223372036854775808) (u1 : -9223372036854775808 ≤ hi) (u2 : hi < 9223372036854775808) (hl : lo.natAbs < bp 15) (hh : hi.natAbs < bp 15) {f : Bool} (hf : betB (okR x a y b) (sZ x a) (sZ y b) lo hi = f) (w : World) : Calls Tryz.prog 116 #[.agg (ratC x a y b), .int .i64 lo, .int .i64 hi] w (RetB (.bool f) w) := by
 have F := Fr.start w
 unfold betB at hf
 by_cases h : okR x a y b
 ·rw [decide_eq_true h, Bool.true_and] at hf
  have v1 := fun w => rvalid_any ha hb (decide_eq_true h) w
  obtain ⟨n, d, ⟨e, e1, e2⟩, hn, hd, -⟩ := okR_ints h
  rw [e1, e2] at hf
  have hz : okZ n d := by
   have e3 : intC x a ++ intC y b = intC (decide (n < 0)) n.natAbs ++ intC (decide (d < 0)) d.natAbs := e
   unfold okZ
   rw [← e1, ← e2]
   obtain ⟨-, -, hy, -, hx, -⟩ := okR_bound h
   subst hy
   have k1 : decide (sZ x a < 0) = x := by
    unfold sZ
    cases x
    ·simp <;> omega
    ·have := hx rfl; simp <;> omega
   have k2 : (sZ x a).natAbs = a := by unfold sZ; split <;> omega
   have k3 : decide (sZ false b < 0) = false := by unfold sZ; simp <;> omega
   have k4 : (sZ false b).natAbs = b := by unfold sZ; simp
   rw [k1, k2, k3, k4]
   exact h
  rw [e] at v1 ⊢
  have g1 := fun w => rwholeR l1 l2 w
  have g2 := fun w => rwholeR u1 u2 w
  have k1 := fun w => rcompareR hz (okZ_one hl) rfl w
  have k2 := fun w => rcompareR hz (okZ_one hh) rfl w
  rw [← cmpZ_ge, ← cmpZ_le (q := hi * d), ← Int.mul_one n] at hf
  generalize cmpZ (n * 1) (lo * d) = c1 at *
  generalize cmpZ (n * 1) (hi * d) = c2 at *
  clear h hn hd e1 e2 e hz l1 l2 u1 u2 hl hh
  by_cases h1 : 0 ≤ c1
  ·rw [decide_eq_true h1, Bool.true_and] at hf
   have t1 : decide (0 ≤ c1) = true := decide_eq_true h1
   have HH := Lib.hid hf
   clear hf
   go_enter Tryz.func116, Tryz.ntmps116
   go_wp2_with (first | go_skip | refine aY3 ?_ | (refine aT3 ?_; clear F; intro W F) | refine aN3 ?_)
   (clear F; intro b3 W F; try simp only [Act.put, z6, z1, z2])
   go_wp2_with (first | go_skip | refine aY3 ?_ | (refine aT3 ?_; clear F; intro W F) | refine aN3 ?_)
   try simp only [Act.put, z6, z1, z2]
   refine wp_region_bm 17 (by kernel_rfl) rfl ?_
   replace F := F.drew
   revert F
   generalize World.drew _ = W
   intro F
   refine dg_one 0 1 (by kernel_rfl) rfl (by kernel_rfl) rfl (fun K hK => ?_)
   (simp only [z3, z4, z5])
   (first | ((with_reducible apply gL F); exact rfl; (exact tL); (exact tR3); go_simp) | ((refine ⟨?_⟩); go_simp))
   (refine hK _ _ ?_; clear hK K)
   refine dg_one 1 3 (by kernel_rfl) rfl (by kernel_rfl) rfl (fun K hK => ?_)
   (simp only [z3, z4, z5])
   ((refine ⟨?_⟩); go_simp; (first | ((with_reducible refine fr_call F (v1 _) ?_); (try clear F); (intro W F); (try dsimp only)) | ((with_reducible refine fr_call F (g1 _) ?_); (try clear F); (intro W F); (try dsimp only)) | ((with_reducible refine fr_call F (k1 _) ?_); (try clear F); (intro W F); (try dsimp only)) | ((with_reducible refine fr_call F (g2 _) ?_); (try clear F); (intro W F); (try dsimp only)) | ((with_reducible refine fr_call F (k2 _) ?_); (try clear F); (intro W F); (try dsimp only)) | skip))
   (refine hK _ _ ?_; clear hK K)
   refine dg_one 2 7 (by kernel_rfl) rfl (by kernel_rfl) rfl (fun K hK => ?_)
   (simp only [z3, z4, z5])
   ((refine ⟨?_⟩); go_simp)
   (refine hK _ _ ?_; clear hK K)
   (refine dg_take 4 11 23 (v := ?_) rfl (by kernel_rfl) (by kernel_rfl) (by kernel_rfl) (by kernel_rfl) (by kernel_rfl) (fun _ _ _ h => h) (Or.inl ⟨by kernel_rfl, ?_⟩) ?_; rotate_left; (focus (intro w; go_simp; try (with_reducible rfl))); (simp only [z1, z2]))
   apply dg_meet (f' := 11) (m' := 63)
   ·intro M
    refine dg_ready [3, 5] (by kernel_rfl) rfl ?_
    refine dg_want 3 31 rfl (by kernel_rfl) rfl (fun K hK => ?_) ?_
    ·skip
     (simp only [z3, z4, z5])
     (first | ((with_reducible apply gL F); exact rfl; (exact tL); (exact tR3); go_simp) | ((refine ⟨?_⟩); go_simp))
     (refine hK _ _ ?_; clear hK K)
     refine dg_one 5 63 (by kernel_rfl) rfl (by kernel_rfl) rfl (fun K hK => ?_)
     (simp only [z3, z4, z5])
     ((refine ⟨?_⟩); go_simp; (first | ((with_reducible refine fr_call F (v1 _) ?_); (try clear F); (intro W F); (try dsimp only)) | ((with_reducible refine fr_call F (g1 _) ?_); (try clear F); (intro W F); (try dsimp only)) | ((with_reducible refine fr_call F (k1 _) ?_); (try clear F); (intro W F); (try dsimp only)) | ((with_reducible refine fr_call F (g2 _) ?_); (try clear F); (intro W F); (try dsimp only)) | ((with_reducible refine fr_call F (k2 _) ?_); (try clear F); (intro W F); (try dsimp only)) | skip))
     (refine hK _ _ ?_; clear hK K)
     exact M _ F
    refine dg_want 5 55 rfl (by kernel_rfl) rfl (fun K hK => ?_) ?_
    ·skip
     (simp only [z3, z4, z5])
     ((refine ⟨?_⟩); go_simp; (first | ((with_reducible refine fr_call F (v1 _) ?_); (try clear F); (intro W F); (try dsimp only)) | ((with_reducible refine fr_call F (g1 _) ?_); (try clear F); (intro W F); (try dsimp only)) | ((with_reducible refine fr_call F (k1 _) ?_); (try clear F); (intro W F); (try dsimp only)) | ((with_reducible refine fr_call F (g2 _) ?_); (try clear F); (intro W F); (try dsimp only)) | ((with_reducible refine fr_call F (k2 _) ?_); (try clear F); (intro W F); (try dsimp only)) | skip))
     (refine hK _ _ ?_; clear hK K)
     refine dg_one 3 63 (by kernel_rfl) rfl (by kernel_rfl) rfl (fun K hK => ?_)
     (simp only [z3, z4, z5])
     (first | ((with_reducible apply gL F); exact rfl; (exact tL); (exact tR3); go_simp) | ((refine ⟨?_⟩); go_simp))
     (refine hK _ _ ?_; clear hK K)
     exact M _ F
    exact dg_nil
   clear F
   intro W F
   refine dg_one 6 127 (by kernel_rfl) rfl (by kernel_rfl) rfl (fun K hK => ?_)
   (simp only [z3, z4, z5])
   ((refine ⟨?_⟩); go_simp; (first | ((with_reducible refine fr_call F (v1 _) ?_); (try clear F); (intro W F); (try dsimp only)) | ((with_reducible refine fr_call F (g1 _) ?_); (try clear F); (intro W F); (try dsimp only)) | ((with_reducible refine fr_call F (k1 _) ?_); (try clear F); (intro W F); (try dsimp only)) | ((with_reducible refine fr_call F (g2 _) ?_); (try clear F); (intro W F); (try dsimp only)) | ((with_reducible refine fr_call F (k2 _) ?_); (try clear F); (intro W F); (try dsimp only)) | skip))
   (refine hK _ _ ?_; clear hK K)
   refine dg_one 7 255 (by kernel_rfl) rfl (by kernel_rfl) rfl (fun K hK => ?_)
   (simp only [z3, z4, z5])
   ((refine ⟨?_⟩); go_simp)
   (refine hK _ _ ?_; clear hK K)
   refine dg_one 8 511 (by kernel_rfl) rfl (by kernel_rfl) rfl (fun K hK => ?_)
   (simp only [z3, z4, z5])
   ((refine ⟨?_⟩); go_simp)
   (refine hK _ _ ?_; clear hK K)
   refine dg_one 9 1023 (by kernel_rfl) rfl (by kernel_rfl) rfl (fun K hK => ?_)
   (simp only [z3, z4, z5])
   ((refine ⟨?_⟩); go_simp)
   (refine hK _ _ ?_; clear hK K)
   (refine dg_take 11 18 3071 (v := ?_) rfl (by kernel_rfl) (by kernel_rfl) (by kernel_rfl) (by kernel_rfl) (by kernel_rfl) (fun _ _ _ h => h) (Or.inl ⟨by kernel_rfl, ?_⟩) ?_; rotate_left; (focus (intro w; go_simp; try (with_reducible rfl))); (simp only [z1, z2]))
   apply dg_meet (f' := 4) (m' := 8191)
   ·intro M
    refine dg_ready [10, 12] (by kernel_rfl) rfl ?_
    refine dg_want 10 4095 rfl (by kernel_rfl) rfl (fun K hK => ?_) ?_
    ·skip
     (simp only [z3, z4, z5])
     (first | ((with_reducible apply gL F); exact rfl; (exact tL); (exact tR3); go_simp) | ((refine ⟨?_⟩); go_simp))
     (refine hK _ _ ?_; clear hK K)
     refine dg_one 12 8191 (by kernel_rfl) rfl (by kernel_rfl) rfl (fun K hK => ?_)
     (simp only [z3, z4, z5])
     ((refine ⟨?_⟩); go_simp; (first | ((with_reducible refine fr_call F (v1 _) ?_); (try clear F); (intro W F); (try dsimp only)) | ((with_reducible refine fr_call F (g1 _) ?_); (try clear F); (intro W F); (try dsimp only)) | ((with_reducible refine fr_call F (k1 _) ?_); (try clear F); (intro W F); (try dsimp only)) | ((with_reducible refine fr_call F (g2 _) ?_); (try clear F); (intro W F); (try dsimp only)) | ((with_reducible refine fr_call F (k2 _) ?_); (try clear F); (intro W F); (try dsimp only)) | skip))
     (refine hK _ _ ?_; clear hK K)
     exact M _ F
    refine dg_want 12 7167 rfl (by kernel_rfl) rfl (fun K hK => ?_) ?_
    ·skip
     (simp only [z3, z4, z5])
     ((refine ⟨?_⟩); go_simp; (first | ((with_reducible refine fr_call F (v1 _) ?_); (try clear F); (intro W F); (try dsimp only)) | ((with_reducible refine fr_call F (g1 _) ?_); (try clear F); (intro W F); (try dsimp only)) | ((with_reducible refine fr_call F (k1 _) ?_); (try clear F); (intro W F); (try dsimp only)) | ((with_reducible refine fr_call F (g2 _) ?_); (try clear F); (intro W F); (try dsimp only)) | ((with_reducible refine fr_call F (k2 _) ?_); (try clear F); (intro W F); (try dsimp only)) | skip))
     (refine hK _ _ ?_; clear hK K)
     refine dg_one 10 8191 (by kernel_rfl) rfl (by kernel_rfl) rfl (fun K hK => ?_)
     (simp only [z3, z4, z5])
     (first | ((with_reducible apply gL F); exact rfl; (exact tL); (exact tR3); go_simp) | ((refine ⟨?_⟩); go_simp))
     (refine hK _ _ ?_; clear hK K)
     exact M _ F
    exact dg_nil
   clear F
   intro W F
   refine dg_one 13 16383 (by kernel_rfl) rfl (by kernel_rfl) rfl (fun K hK => ?_)
   (simp only [z3, z4, z5])
   ((refine ⟨?_⟩); go_simp; (first | ((with_reducible refine fr_call F (v1 _) ?_); (try clear F); (intro W F); (try dsimp only)) | ((with_reducible refine fr_call F (g1 _) ?_); (try clear F); (intro W F); (try dsimp only)) | ((with_reducible refine fr_call F (k1 _) ?_); (try clear F); (intro W F); (try dsimp only)) | ((with_reducible refine fr_call F (g2 _) ?_); (try clear F); (intro W F); (try dsimp only)) | ((with_reducible refine fr_call F (k2 _) ?_); (try clear F); (intro W F); (try dsimp only)) | skip))
   (refine hK _ _ ?_; clear hK K)
   refine dg_one 14 32767 (by kernel_rfl) rfl (by kernel_rfl) rfl (fun K hK => ?_)
   (simp only [z3, z4, z5])
   ((refine ⟨?_⟩); go_simp)
   (refine hK _ _ ?_; clear hK K)
   refine dg_one 15 65535 (by kernel_rfl) rfl (by kernel_rfl) rfl (fun K hK => ?_)
   (simp only [z3, z4, z5])
   ((refine ⟨?_⟩); go_simp)
   (refine hK _ _ ?_; clear hK K)
   refine dg_one 16 131071 (by kernel_rfl) rfl (by kernel_rfl) rfl (fun K hK => ?_)
   (simp only [z3, z4, z5])
   ((refine ⟨?_⟩); go_simp)
   (refine hK _ _ ?_; clear hK K)
   refine dg_end (by kernel_rfl) ?_ _
   go_wp2_with (first | go_skip | refine aY3 ?_ | (refine aT3 ?_; clear F; intro W F) | refine aN3 ?_)
   go_ret
   exact ⟨ret_bool HH.out, F.below⟩
  ·rw [decide_eq_false h1, Bool.false_and] at hf
   have t1 : decide (0 ≤ c1) = false := decide_eq_false h1
   subst hf
   go_enter Tryz.func116, Tryz.ntmps116
   go_wp2_with (first | go_skip | refine aY3 ?_ | (refine aT3 ?_; clear F; intro W F) | refine aN3 ?_)
   (clear F; intro b3 W F; try simp only [Act.put, z6, z1, z2])
   go_wp2_with (first | go_skip | refine aY3 ?_ | (refine aT3 ?_; clear F; intro W F) | refine aN3 ?_)
   try simp only [Act.put, z6, z1, z2]
   refine wp_region_bm 17 (by kernel_rfl) rfl ?_
   replace F := F.drew
   revert F
   generalize World.drew _ = W
   intro F
   refine dg_one 0 1 (by kernel_rfl) rfl (by kernel_rfl) rfl (fun K hK => ?_)
   (simp only [z3, z4, z5])
   (first | ((with_reducible apply gL F); exact rfl; (exact tL); (exact tR3); go_simp) | ((refine ⟨?_⟩); go_simp))
   (refine hK _ _ ?_; clear hK K)
   refine dg_one 1 3 (by kernel_rfl) rfl (by kernel_rfl) rfl (fun K hK => ?_)
   (simp only [z3, z4, z5])
   ((refine ⟨?_⟩); go_simp; (first | ((with_reducible refine fr_call F (v1 _) ?_); (try clear F); (intro W F); (try dsimp only)) | ((with_reducible refine fr_call F (g1 _) ?_); (try clear F); (intro W F); (try dsimp only)) | ((with_reducible refine fr_call F (k1 _) ?_); (try clear F); (intro W F); (try dsimp only)) | skip))
   (refine hK _ _ ?_; clear hK K)
   refine dg_one 2 7 (by kernel_rfl) rfl (by kernel_rfl) rfl (fun K hK => ?_)
   (simp only [z3, z4, z5])
   ((refine ⟨?_⟩); go_simp)
   (refine hK _ _ ?_; clear hK K)
   (refine dg_take 4 11 23 (v := ?_) rfl (by kernel_rfl) (by kernel_rfl) (by kernel_rfl) (by kernel_rfl) (by kernel_rfl) (fun _ _ _ h => h) (Or.inl ⟨by kernel_rfl, ?_⟩) ?_; rotate_left; (focus (intro w; go_simp; try (with_reducible rfl))); (simp only [z1, z2]))
   apply dg_meet (f' := 11) (m' := 63)
   ·intro M
    refine dg_ready [3, 5] (by kernel_rfl) rfl ?_
    refine dg_want 3 31 rfl (by kernel_rfl) rfl (fun K hK => ?_) ?_
    ·skip
     (simp only [z3, z4, z5])
     (first | ((with_reducible apply gL F); exact rfl; (exact tL); (exact tR3); go_simp) | ((refine ⟨?_⟩); go_simp))
     (refine hK _ _ ?_; clear hK K)
     refine dg_one 5 63 (by kernel_rfl) rfl (by kernel_rfl) rfl (fun K hK => ?_)
     (simp only [z3, z4, z5])
     ((refine ⟨?_⟩); go_simp; (first | ((with_reducible refine fr_call F (v1 _) ?_); (try clear F); (intro W F); (try dsimp only)) | ((with_reducible refine fr_call F (g1 _) ?_); (try clear F); (intro W F); (try dsimp only)) | ((with_reducible refine fr_call F (k1 _) ?_); (try clear F); (intro W F); (try dsimp only)) | skip))
     (refine hK _ _ ?_; clear hK K)
     exact M _ F
    refine dg_want 5 55 rfl (by kernel_rfl) rfl (fun K hK => ?_) ?_
    ·skip
     (simp only [z3, z4, z5])
     ((refine ⟨?_⟩); go_simp; (first | ((with_reducible refine fr_call F (v1 _) ?_); (try clear F); (intro W F); (try dsimp only)) | ((with_reducible refine fr_call F (g1 _) ?_); (try clear F); (intro W F); (try dsimp only)) | ((with_reducible refine fr_call F (k1 _) ?_); (try clear F); (intro W F); (try dsimp only)) | skip))
     (refine hK _ _ ?_; clear hK K)
     refine dg_one 3 63 (by kernel_rfl) rfl (by kernel_rfl) rfl (fun K hK => ?_)
     (simp only [z3, z4, z5])
     (first | ((with_reducible apply gL F); exact rfl; (exact tL); (exact tR3); go_simp) | ((refine ⟨?_⟩); go_simp))
     (refine hK _ _ ?_; clear hK K)
     exact M _ F
    exact dg_nil
   clear F
   intro W F
   refine dg_one 6 127 (by kernel_rfl) rfl (by kernel_rfl) rfl (fun K hK => ?_)
   (simp only [z3, z4, z5])
   ((refine ⟨?_⟩); go_simp; (first | ((with_reducible refine fr_call F (v1 _) ?_); (try clear F); (intro W F); (try dsimp only)) | ((with_reducible refine fr_call F (g1 _) ?_); (try clear F); (intro W F); (try dsimp only)) | ((with_reducible refine fr_call F (k1 _) ?_); (try clear F); (intro W F); (try dsimp only)) | skip))
   (refine hK _ _ ?_; clear hK K)
   refine dg_one 7 255 (by kernel_rfl) rfl (by kernel_rfl) rfl (fun K hK => ?_)
   (simp only [z3, z4, z5])
   ((refine ⟨?_⟩); go_simp)
   (refine hK _ _ ?_; clear hK K)
   refine dg_one 8 511 (by kernel_rfl) rfl (by kernel_rfl) rfl (fun K hK => ?_)
   (simp only [z3, z4, z5])
   ((refine ⟨?_⟩); go_simp)
   (refine hK _ _ ?_; clear hK K)
   refine dg_one 9 1023 (by kernel_rfl) rfl (by kernel_rfl) rfl (fun K hK => ?_)
   (simp only [z3, z4, z5])
   ((refine ⟨?_⟩); go_simp)
   (refine hK _ _ ?_; clear hK K)
   apply dg_meet (f' := 4) (m' := 8191)
   ·intro M
    refine dg_ready [10, 11] (by kernel_rfl) rfl ?_
    refine dg_skip 10 2047 rfl (by kernel_rfl) rfl ?_ ?_
    ·(simp only [Act.put, z3, z4, z5, z6, z1, z2])
     refine dg_oneS 11 4095 (by kernel_rfl) rfl (by kernel_rfl) rfl ?_
     (simp only [Act.put, z3, z4, z5, z6, z1, z2])
     refine dg_oneS 12 8191 (by kernel_rfl) rfl (by kernel_rfl) rfl ?_
     (simp only [Act.put, z3, z4, z5, z6, z1, z2])
     exact M _ F
    refine dg_skip 11 3071 rfl (by kernel_rfl) rfl ?_ ?_
    ·(simp only [Act.put, z3, z4, z5, z6, z1, z2])
     refine dg_ready [10, 12] (by kernel_rfl) rfl ?_
     refine dg_skip 10 4095 rfl (by kernel_rfl) rfl ?_ ?_
     ·(simp only [Act.put, z3, z4, z5, z6, z1, z2])
      refine dg_oneS 12 8191 (by kernel_rfl) rfl (by kernel_rfl) rfl ?_
      (simp only [Act.put, z3, z4, z5, z6, z1, z2])
      exact M _ F
     refine dg_skip 12 7167 rfl (by kernel_rfl) rfl ?_ ?_
     ·(simp only [Act.put, z3, z4, z5, z6, z1, z2])
      refine dg_oneS 10 8191 (by kernel_rfl) rfl (by kernel_rfl) rfl ?_
      (simp only [Act.put, z3, z4, z5, z6, z1, z2])
      exact M _ F
     exact dg_nil
    exact dg_nil
   clear F
   intro W F
   refine dg_oneS 13 16383 (by kernel_rfl) rfl (by kernel_rfl) rfl ?_
   (simp only [Act.put, z3, z4, z5, z6, z1, z2])
   refine dg_oneS 14 32767 (by kernel_rfl) rfl (by kernel_rfl) rfl ?_
   (simp only [Act.put, z3, z4, z5, z6, z1, z2])
   refine dg_one 15 65535 (by kernel_rfl) rfl (by kernel_rfl) rfl (fun K hK => ?_)
   (simp only [z3, z4, z5])
   ((refine ⟨?_⟩); go_simp)
   (refine hK _ _ ?_; clear hK K)
   refine dg_one 16 131071 (by kernel_rfl) rfl (by kernel_rfl) rfl (fun K hK => ?_)
   (simp only [z3, z4, z5])
   ((refine ⟨?_⟩); go_simp)
   (refine hK _ _ ?_; clear hK K)
   refine dg_end (by kernel_rfl) ?_ _
   go_wp2_with (first | go_skip | refine aY3 ?_ | (refine aT3 ?_; clear F; intro W F) | refine aN3 ?_)
   go_ret
   exact ⟨rfl, F.below⟩
 ·rw [decide_eq_false h, Bool.false_and] at hf
  subst hf
  have v1 := fun w => rvalid_any ha hb (decide_eq_false h) w
  clear h l1 l2 u1 u2 hl hh
  go_enter Tryz.func116, Tryz.ntmps116
  go_wp2_with (first | go_skip | refine aY3 ?_ | (refine aT3 ?_; clear F; intro W F) | refine aN3 ?_)
  (clear F; intro b3 W F; try simp only [Act.put, z6, z1, z2])
  go_wp2_with (first | go_skip | refine aY3 ?_ | (refine aT3 ?_; clear F; intro W F) | refine aN3 ?_)
  try simp only [Act.put, z6, z1, z2]
  refine wp_region_bm 17 (by kernel_rfl) rfl ?_
  replace F := F.drew
  revert F
  generalize World.drew _ = W
  intro F
  refine dg_one 0 1 (by kernel_rfl) rfl (by kernel_rfl) rfl (fun K hK => ?_)
  (simp only [z3, z4, z5])
  (first | ((with_reducible apply gL F); exact rfl; (exact tL); (exact tR3); go_simp) | ((refine ⟨?_⟩); go_simp))
  (refine hK _ _ ?_; clear hK K)
  refine dg_one 1 3 (by kernel_rfl) rfl (by kernel_rfl) rfl (fun K hK => ?_)
  (simp only [z3, z4, z5])
  ((refine ⟨?_⟩); go_simp; (first | ((with_reducible refine fr_call F (v1 _) ?_); (try clear F); (intro W F); (try dsimp only)) | skip))
  (refine hK _ _ ?_; clear hK K)
  refine dg_one 2 7 (by kernel_rfl) rfl (by kernel_rfl) rfl (fun K hK => ?_)
  (simp only [z3, z4, z5])
  ((refine ⟨?_⟩); go_simp)
  (refine hK _ _ ?_; clear hK K)
  apply dg_meet (f' := 11) (m' := 63)
  ·intro M
   refine dg_ready [3, 4] (by kernel_rfl) rfl ?_
   refine dg_skip 3 15 rfl (by kernel_rfl) rfl ?_ ?_
   ·(simp only [Act.put, z3, z4, z5, z6, z1, z2])
    refine dg_oneS 4 31 (by kernel_rfl) rfl (by kernel_rfl) rfl ?_
    (simp only [Act.put, z3, z4, z5, z6, z1, z2])
    refine dg_oneS 5 63 (by kernel_rfl) rfl (by kernel_rfl) rfl ?_
    (simp only [Act.put, z3, z4, z5, z6, z1, z2])
    exact M _ F
   refine dg_skip 4 23 rfl (by kernel_rfl) rfl ?_ ?_
   ·(simp only [Act.put, z3, z4, z5, z6, z1, z2])
    refine dg_ready [3, 5] (by kernel_rfl) rfl ?_
    refine dg_skip 3 31 rfl (by kernel_rfl) rfl ?_ ?_
    ·(simp only [Act.put, z3, z4, z5, z6, z1, z2])
     refine dg_oneS 5 63 (by kernel_rfl) rfl (by kernel_rfl) rfl ?_
     (simp only [Act.put, z3, z4, z5, z6, z1, z2])
     exact M _ F
    refine dg_skip 5 55 rfl (by kernel_rfl) rfl ?_ ?_
    ·(simp only [Act.put, z3, z4, z5, z6, z1, z2])
     refine dg_oneS 3 63 (by kernel_rfl) rfl (by kernel_rfl) rfl ?_
     (simp only [Act.put, z3, z4, z5, z6, z1, z2])
     exact M _ F
    exact dg_nil
   exact dg_nil
  clear F
  intro W F
  refine dg_oneS 6 127 (by kernel_rfl) rfl (by kernel_rfl) rfl ?_
  (simp only [Act.put, z3, z4, z5, z6, z1, z2])
  refine dg_oneS 7 255 (by kernel_rfl) rfl (by kernel_rfl) rfl ?_
  (simp only [Act.put, z3, z4, z5, z6, z1, z2])
  refine dg_one 8 511 (by kernel_rfl) rfl (by kernel_rfl) rfl (fun K hK => ?_)
  (simp only [z3, z4, z5])
  ((refine ⟨?_⟩); go_simp)
  (refine hK _ _ ?_; clear hK K)
  refine dg_one 9 1023 (by kernel_rfl) rfl (by kernel_rfl) rfl (fun K hK => ?_)
  (simp only [z3, z4, z5])
  ((refine ⟨?_⟩); go_simp)
  (refine hK _ _ ?_; clear hK K)
  apply dg_meet (f' := 4) (m' := 8191)
  ·intro M
   refine dg_ready [10, 11] (by kernel_rfl) rfl ?_
   refine dg_skip 10 2047 rfl (by kernel_rfl) rfl ?_ ?_
   ·(simp only [Act.put, z3, z4, z5, z6, z1, z2])
    refine dg_oneS 11 4095 (by kernel_rfl) rfl (by kernel_rfl) rfl ?_
    (simp only [Act.put, z3, z4, z5, z6, z1, z2])
    refine dg_oneS 12 8191 (by kernel_rfl) rfl (by kernel_rfl) rfl ?_
    (simp only [Act.put, z3, z4, z5, z6, z1, z2])
    exact M _ F
   refine dg_skip 11 3071 rfl (by kernel_rfl) rfl ?_ ?_
   ·(simp only [Act.put, z3, z4, z5, z6, z1, z2])
    refine dg_ready [10, 12] (by kernel_rfl) rfl ?_
    refine dg_skip 10 4095 rfl (by kernel_rfl) rfl ?_ ?_
    ·(simp only [Act.put, z3, z4, z5, z6, z1, z2])
     refine dg_oneS 12 8191 (by kernel_rfl) rfl (by kernel_rfl) rfl ?_
     (simp only [Act.put, z3, z4, z5, z6, z1, z2])
     exact M _ F
    refine dg_skip 12 7167 rfl (by kernel_rfl) rfl ?_ ?_
    ·(simp only [Act.put, z3, z4, z5, z6, z1, z2])
     refine dg_oneS 10 8191 (by kernel_rfl) rfl (by kernel_rfl) rfl ?_
     (simp only [Act.put, z3, z4, z5, z6, z1, z2])
     exact M _ F
    exact dg_nil
   exact dg_nil
  clear F
  intro W F
  refine dg_oneS 13 16383 (by kernel_rfl) rfl (by kernel_rfl) rfl ?_
  (simp only [Act.put, z3, z4, z5, z6, z1, z2])
  refine dg_oneS 14 32767 (by kernel_rfl) rfl (by kernel_rfl) rfl ?_
  (simp only [Act.put, z3, z4, z5, z6, z1, z2])
  refine dg_one 15 65535 (by kernel_rfl) rfl (by kernel_rfl) rfl (fun K hK => ?_)
  (simp only [z3, z4, z5])
  ((refine ⟨?_⟩); go_simp)
  (refine hK _ _ ?_; clear hK K)
  refine dg_one 16 131071 (by kernel_rfl) rfl (by kernel_rfl) rfl (fun K hK => ?_)
  (simp only [z3, z4, z5])
  ((refine ⟨?_⟩); go_simp)
  (refine hK _ _ ?_; clear hK K)
  refine dg_end (by kernel_rfl) ?_ _
  go_wp2_with (first | go_skip | refine aY3 ?_ | (refine aT3 ?_; clear F; intro W F) | refine aN3 ?_)
  go_ret
  exact ⟨rfl, F.below⟩
def price0 (v : Prop) [Decidable v] (n d : Int) : Bool := decide ((txtR v n d 6).2 = 0) && betB v n d 0 1000000000
set_option maxRecDepth 100000 in
theorem rpriceOK_any (ha : a < bp 32) (hb : b < bp 32) {f : Bool} (hf : price0 (okR x a y b) (sZ x a) (sZ y b) = f) (w : World) : Calls Tryz.prog 73 #[.agg (ratC x a y b)] w (RetB (.bool f) w) := by
 have F := Fr.start w
 unfold price0 at hf
 obtain ⟨t, ht⟩ : ∃ t, txtR (okR x a y b) (sZ x a) (sZ y b) 6 = t := ⟨_, rfl⟩
 obtain ⟨c, hc⟩ : ∃ c, betB (okR x a y b) (sZ x a) (sZ y b) 0 1000000000 = c := ⟨_, rfl⟩
 have g1 := fun w => rtext_any ha hb ht w
 have g2 := fun w => rbetween_any ha hb (by decide) (by decide) (by decide) (by decide) zero15 ten9 hc w
 rw [ht, hc] at hf
 obtain ⟨ts, te⟩ := t
 dsimp only at g1 hf
 have HF := Lib.hid hf
 clear hf ht hc ha hb
 generalize bs ts = tt at *
 by_cases h0 : te = 0
 ·subst h0
  go_enter Tryz.func73, Tryz.ntmps73
  go_wp2_with (first | go_skip | refine aY3 ?_ | (refine aT3 ?_; clear F; intro W F) | refine aN3 ?_)
  (clear F; intro b1 W F; try simp only [Act.put, z6, z1, z2])
  go_wp2_with (first | go_skip | ((go_at_call 56); (with_reducible refine fr_call F (g1 _) ?_); (clear F; intro W F); (try dsimp only)) | ((go_at_call 116); (with_reducible refine fr_call F (g2 _) ?_); (clear F; intro W F); (try dsimp only)) | refine aY3 ?_ | (refine aT3 ?_; clear F; intro W F) | refine aN3 ?_)
  go_ret
  exact ⟨ret_bool (by rw [← HF.out]; rfl), F.below⟩
 ·have t0 : (te == 0) = false := by rw [beq_eq_false_iff_ne]; exact h0
  have hr : false = f := by rw [← HF.out, decide_eq_false h0, Bool.false_and]
  subst hr
  clear h0
  go_enter Tryz.func73, Tryz.ntmps73
  go_wp2_with (first | go_skip | refine aY3 ?_ | (refine aT3 ?_; clear F; intro W F) | refine aN3 ?_)
  (clear F; intro b1 W F; try simp only [Act.put, z6, z1, z2])
  go_wp2_with (first | go_skip | ((go_at_call 56); (with_reducible refine fr_call F (g1 _) ?_); (clear F; intro W F); (try dsimp only)) | refine aY3 ?_ | (refine aT3 ?_; clear F; intro W F) | refine aN3 ?_)
  go_ret
  exact ⟨rfl, F.below⟩
theorem price_doc {n d : Int} : (price0 (okR x a y b) n d && !(decide (n = 0))) = priceB (okR x a y b) n d := by
 unfold price0 betB priceB
 by_cases h : okR x a y b
 ·rw [decide_eq_true h, Bool.true_and, Bool.eq_iff_iff]
  simp
  constructor
  ·rintro ⟨⟨h0, h1, h2⟩, h3⟩; exact ⟨h0, by omega, h2⟩
  ·rintro ⟨h0, h1, h2⟩; exact ⟨⟨h0, by omega, h2⟩, by omega⟩
 ·rw [txt_no h]
  rfl
end
end
section
section
open Go.RowKit
theorem take_snoc (s : ByteArray) (k : Nat) (h : k < s.size) : s.data.toList.take (k + 1) = s.data.toList.take k ++ [s[k]] := by
 rw [List.take_succ_eq_append_getElem (by simpa using h)]; rfl
theorem nameChars_bad (s : ByteArray) (k : Nat) (h : k < s.size) (hb : (lowB s[k] || digB s[k]) = false) : nameChars s.data.toList = false := by
 unfold nameChars
 rw [List.all_eq_false]
 exact ⟨s[k], List.getElem_mem (l := s.data.toList) (by simpa using h), by rw [hb]; simp⟩
theorem nameChars_snoc (s : ByteArray) (k : Nat) (h : k < s.size) (hb : (lowB s[k] || digB s[k]) = true) (hp : nameChars (s.data.toList.take k) = true) : nameChars (s.data.toList.take (k + 1)) = true := by
 rw [take_snoc s k h]
 unfold nameChars at hp ⊢
 rw [List.all_append, hp]
 simp [hb]
theorem head_of (s : ByteArray) (h : 0 < s.size) : ∃ r, s.data.toList = s[0] :: r := by
 have := List.drop_eq_getElem_cons (l := s.data.toList) (i := 0) (by simpa using h)
 exact ⟨_, this⟩
theorem nameB_first (s : ByteArray) (h : 0 < s.size) (hc : lowB s[0] = false) : nameB s.data.toList = false := by
 obtain ⟨r, hr⟩ := head_of s h
 unfold nameB
 rw [hr]
 simp only [hc]
 simp
theorem nameB_good (s : ByteArray) (h : 0 < s.size) (hl : s.size ≤ 16) (hc : lowB s[0] = true) (ha : nameChars s.data.toList = true) : nameB s.data.toList = true := by
 obtain ⟨r, hr⟩ := head_of s h
 have hlen : s.data.toList.length = s.size := by simp
 unfold nameB
 rw [ha, hlen]
 rw [hr]
 simp only [hc]
 simp; omega
theorem nameB_long (s : ByteArray) (hl : ¬ s.size ≤ 16) : nameB s.data.toList = false := by
 have hlen : s.data.toList.length = s.size := by simp
 unfold nameB
 rw [hlen]
 simp; omega
theorem nameB_empty (s : ByteArray) (hl : s.size = 0) : nameB s.data.toList = false := by
 have hlen : s.data.toList.length = s.size := by simp
 unfold nameB
 rw [hlen]
 simp; omega
theorem nameB_chars (s : ByteArray) (hc : nameChars s.data.toList = false) : nameB s.data.toList = false := by
 unfold nameB
 rw [hc]
 simp
theorem nameB_digit (s : ByteArray) (h : 0 < s.size) (hc : digB s[0] = true) : nameB s.data.toList = false := by
 refine nameB_first s h ?_
 unfold digB at hc
 unfold lowB
 simp at hc ⊢
 omega
theorem low_of (s : ByteArray) (h : 0 < s.size) (hc : digB s[0] = false) (ha : nameChars s.data.toList = true) : lowB s[0] = true := by
 unfold nameChars at ha
 rw [List.all_eq_true] at ha
 have := ha s[0] (List.getElem_mem (l := s.data.toList) (by simpa using h))
 simpa [hc] using this
set_option maxHeartbeats 400000 in
theorem refUsable_any (s : ByteArray) (w : World) (hs : s.size ≤ maxLen) : Calls Tryz.prog 114 #[.string s] w (RetW (.bool (nameB s.data.toList)) w) := by
 unfold maxLen at hs
 by_cases h0 : s.size = 0
 ·rw [nameB_empty s h0]
  go_enter Tryz.func114, Tryz.ntmps114
  go_wp2
  go_ret
  exact ⟨rfl, rfl⟩
 ·have hpos : 0 < s.size := by omega
  clear h0
  by_cases hl : s.size ≤ 16
  ·cases hd : digB s[0]
   ·have hdd : ¬ (48 ≤ (s[0].toNat : Int)) ∨ ¬ ((s[0].toNat : Int) ≤ 57) := by unfold digB at hd; simp at hd; omega
    rcases hdd with hdd | hdd
    all_goals
     go_enter Tryz.func114, Tryz.ntmps114
     go_wp2
     go_loop [3] (fun i => ∃ k : Nat, k ≤ s.size ∧ i = .int .i64 k ∧ nameChars (s.data.toList.take k) = true) (fun i => s.size - (intOf i).toNat)
     case atStart => exact ⟨0, Nat.zero_le _, rfl, rfl⟩
     case round =>
      obtain ⟨k, hk, rfl, hp⟩ := hrel
      have HP := Lib.hid hp
      clear hp
      by_cases hlt : k < s.size
      ·go_wp2
       all_goals first
        | (go_ret; exact ⟨ret_bool (nameB_chars s (nameChars_bad s k hlt (by unfold lowB digB; simp; omega))).symm, rfl⟩)
        | (go_round; (case rel => exact ⟨k + 1, by omega, by go_num, nameChars_snoc s k hlt (by unfold lowB digB; simp; omega) HP.out⟩); (case measure => simp [intOf]; omega))
      ·go_wp2
       go_ret
       refine ⟨ret_bool ?_, rfl⟩
       have ha : nameChars s.data.toList = true := by have := HP.out; rwa [List.take_of_length_le (by simp; omega)] at this
       rw [nameB_good s hpos hl (low_of s hpos hd ha) ha]
   ·rw [nameB_digit s hpos hd]
    have hd1 : 48 ≤ (s[0].toNat : Int) := by unfold digB at hd; simp at hd; omega
    have hd2 : (s[0].toNat : Int) ≤ 57 := by unfold digB at hd; simp at hd; omega
    go_enter Tryz.func114, Tryz.ntmps114
    go_wp2
    go_ret
    exact ⟨rfl, rfl⟩
  ·rw [nameB_long s hl]
   go_enter Tryz.func114, Tryz.ntmps114
   go_wp2
   go_ret
   exact ⟨rfl, rfl⟩
end
end
section
open Go.RowKit
set_option maxHeartbeats 400000
theorem tdigit_any (x : Nat) {b : Bool} (hb : decide (48 ≤ x ∧ x ≤ 57) = b) (w : World) : Calls Tryz.prog 110 #[.int .u8 (x : Int)] w (RetW (.bool b) w) := by
 have HB := Lib.hid hb
 clear hb
 go_enter Tryz.func110, Tryz.ntmps110
 go_wp2
 all_goals go_ret
 all_goals exact ⟨ret_bool (by rw [← HB.out, Bool.eq_iff_iff]; simp; omega), rfl⟩
theorem rcapital_any (x : Nat) {b : Bool} (hb : decide (65 ≤ x ∧ x ≤ 90) = b) (w : World) : Calls Tryz.prog 115 #[.int .u8 (x : Int)] w (RetW (.bool b) w) := by
 have HB := Lib.hid hb
 clear hb
 go_enter Tryz.func115, Tryz.ntmps115
 go_wp2
 all_goals go_ret
 all_goals exact ⟨ret_bool (by rw [← HB.out, Bool.eq_iff_iff]; simp; omega), rfl⟩
theorem qknown_any {n : Int} {b : Bool} (hb : knB n = b) (w : World) : Calls Tryz.prog 38 #[.int .i64 n] w (RetB (.bool b) w) := by
 have HB := Lib.hid hb
 clear hb
 go_enter Tryz.func38, Tryz.ntmps38
 go_wp2
 all_goals go_ret
 all_goals exact ⟨ret_bool (by rw [← HB.out, Bool.eq_iff_iff, knB_iff]; simp; omega), Below.refl _ _⟩
theorem qknownOK_any {n : Int} {b : Bool} (hb : knB n = b) (w : World) : Calls Tryz.prog 52 #[.int .i64 n] w (RetB (.bool b) w) := by
 have HB := Lib.hid hb
 clear hb
 go_enter Tryz.func52, Tryz.ntmps52
 go_wp2
 all_goals go_ret
 all_goals exact ⟨ret_bool (by rw [← HB.out, Bool.eq_iff_iff, knB_iff]; simp; omega), Below.refl _ _⟩
theorem rname_any (s : ByteArray) (hs : s.size ≤ maxLen) {b : Bool} (hb : nameB s.data.toList = b) (w : World) : Calls Tryz.prog 69 #[.string s] w (RetB (.bool b) w) := by
 subst hb
 go_enter Tryz.func69, Tryz.ntmps69
 go_wp2_with (go_at_call 114; refine (refUsable_any s _ hs).mono ?_; rintro e w' ⟨rfl, rfl⟩)
 go_ret
 exact ⟨rfl, Below.refl _ _⟩
theorem tname_any (s : ByteArray) (hs : s.size ≤ maxLen) {b : Bool} (hb : nameB s.data.toList = b) (w : World) : Calls Tryz.prog 65 #[.string s] w (RetB (.bool b) w) := by
 unfold maxLen at hs
 have HB := Lib.hid hb
 clear hb
 by_cases h0 : s.size = 0
 ·obtain rfl : false = b := by rw [← HB.out, nameB_empty s h0]
  go_enter Tryz.func65, Tryz.ntmps65
  go_wp2
  go_ret
  exact ⟨rfl, Below.refl _ _⟩
 have hpos : 0 < s.size := by omega
 have hne : ((s.size : Int) == 0) = false := beq_eq_false_iff_ne.2 (by omega)
 clear h0
 by_cases hl : s.size ≤ 16
 ·cases hd : digB s[0]
  ·have g1 := fun w => tdigit_any s[0].toNat hd w
   go_enter Tryz.func65, Tryz.ntmps65
   go_wp2_with (go_at_call 110; refine (g1 _).mono ?_; rintro e w' ⟨rfl, rfl⟩)
   go_loopw [4] (fun _ wr => ∃ pos : Nat, pos ≤ s.size ∧ wr = w.iter s pos ∧ nameChars (s.data.toList.take pos) = true) (fun _ wr => s.size - wr.iterPos w.heap.size)
   case atStart => exact ⟨0, by omega, rfl, rfl⟩
   case round =>
    obtain ⟨k, hk, rfl, hp⟩ := hrel
    have HP := Lib.hid hp
    clear hp
    by_cases hlt : k < s.size
    ·by_cases ha : s[k].toNat < 128
     ·have hnx := fun ty => run_next_ascii (P := Tryz.prog) w s k ty hlt ha
      go_wp2
      all_goals first
       | (go_ret; exact ⟨ret_bool ((HB.out.symm.trans (nameB_chars s (nameChars_bad s k hlt (by unfold lowB digB; simp; omega)))).symm), bal0 _ _⟩)
       | (go_roundw; (case rel => exact ⟨k + 1, by omega, rfl, nameChars_snoc s k hlt (by unfold lowB digB; simp; omega) HP.out⟩); (case measure => simp [World.iterPos, World.iter_heap]; omega))
     ·obtain ⟨h1, h2⟩ := decode_high s k hlt (by omega)
      have hnx := fun ty => run_next_any (P := Tryz.prog) w s k ty hlt
      generalize (Utf8.decode s k).1 = r at *
      generalize (Utf8.decode s k).2 = d at *
      go_wp2
      all_goals (go_ret; exact ⟨ret_bool ((HB.out.symm.trans (nameB_chars s (nameChars_bad s k hlt (by unfold lowB digB; simp; omega)))).symm), bal0 _ _⟩)
    ·have hnx := fun ty => run_next_end (P := Tryz.prog) w s k ty hlt
     go_wp2
     go_ret
     refine ⟨ret_bool ?_, bal0 _ _⟩
     have ha : nameChars s.data.toList = true := by have := HP.out; rwa [List.take_of_length_le (by simp; omega)] at this
     rw [← HB.out, nameB_good s hpos hl (low_of s hpos hd ha) ha]
  ·obtain rfl : false = b := by rw [← HB.out, nameB_digit s hpos hd]
   have g1 := fun w => tdigit_any s[0].toNat hd w
   go_enter Tryz.func65, Tryz.ntmps65
   go_wp2_with (go_at_call 110; refine (g1 _).mono ?_; rintro e w' ⟨rfl, rfl⟩)
   go_ret
   exact ⟨rfl, Below.refl _ _⟩
 ·obtain rfl : false = b := by rw [← HB.out, nameB_long s hl]
  go_enter Tryz.func65, Tryz.ntmps65
  go_wp2
  go_ret
  exact ⟨rfl, Below.refl _ _⟩
theorem caps_any (s : ByteArray) (hs : s.size ≤ maxLen) {b : Bool} (hb : capsB s.data.toList = b) (w : World) : Calls Tryz.prog 111 #[.string s] w (RetW (.bool b) w) := by
 unfold maxLen at hs
 have HB := Lib.hid hb
 clear hb
 go_enter Tryz.func111, Tryz.ntmps111
 go_wp2
 go_loop [3, 6] (fun _ i => ∃ k : Nat, k ≤ s.size ∧ i = .int .i64 k ∧ capChars (s.data.toList.take k) = true ∧ (∀ h : 0 < s.size, 0 < k → capL s[0] = true)) (fun _ i => s.size - (intOf i).toNat)
 case atStart => exact ⟨0, by omega, rfl, rfl, fun _ h => absurd h (by omega)⟩
 case round =>
  obtain ⟨k, hk, rfl, hp, hp0⟩ := hrel
  have HP := Lib.hid hp
  have HP0 := Lib.hid hp0
  clear hp hp0
  by_cases hlt : k < s.size
  ·rcases Nat.eq_zero_or_pos k with rfl | hk0
   ·go_wp2
    all_goals first
     | (go_ret; exact ⟨ret_bool (HB.out.symm.trans (capsB_first s hlt (by unfold capL; simp; omega))).symm, rfl⟩)
     | (go_round; (case rel => exact ⟨1, by omega, by go_num, capChars_snoc s 0 hlt (by unfold capL digB; simp; omega) HP.out, fun _ _ => by unfold capL; simp; omega⟩); (case measure => simp [intOf]; omega))
   ·have t0 : ((k : Int) == 0) = false := beq_eq_false_iff_ne.2 (by omega)
    have HC := Lib.hid (HP0.out (by omega) hk0)
    clear HP0
    go_wp2
    all_goals first
     | (go_ret; exact ⟨ret_bool (HB.out.symm.trans (capChars_bad s k hlt (by unfold capL digB; simp; omega))).symm, rfl⟩)
     | (go_round; (case rel => exact ⟨k + 1, by omega, by go_num, capChars_snoc s k hlt (by unfold capL digB; simp; omega) HP.out, fun _ _ => HC.out⟩); (case measure => simp [intOf]; omega))
  ·go_wp2
   go_ret
   obtain rfl : k = s.size := by omega
   refine ⟨ret_bool ?_, rfl⟩
   rw [← HB.out]
   by_cases h0 : s.size = 0
   ·rw [capsB_empty s h0]
    have : s = ⟨#[]⟩ := by
     apply ByteArray.ext
     exact Array.eq_empty_of_size_eq_zero h0
    subst this
    rw [Lib.toList_data]
    rfl
   ·have ha := HP.out
    rw [List.take_of_length_le (by simp)] at ha
    rw [capsB_good s (by omega) (HP0.out (by omega) (by omega)) ha]
    have : s.toList ≠ [] := by
     intro e
     rw [Lib.toList_data] at e
     have h2 : s.data.toList.length = 0 := by rw [e]; rfl
     have h3 : s.data.toList.length = s.size := by simp
     omega
    simpa using this
theorem inst_any (s : ByteArray) (hs : s.size ≤ maxLen) {b : Bool} (hb : paperB s.data.toList = b) (w : World) : Calls Tryz.prog 66 #[.string s] w (RetB (.bool b) w) := by
 unfold paperB at hb
 have hl : s.data.toList.length = s.size := by simp
 rw [hl] at hb
 obtain ⟨c, hc⟩ : ∃ c, capsB s.data.toList = c := ⟨_, rfl⟩
 have g1 := fun w => caps_any s hs hc w
 rw [hc] at hb
 have HB := Lib.hid hb
 clear hb hc hl
 unfold maxLen at hs
 cases c
 all_goals
  go_enter Tryz.func66, Tryz.ntmps66
  go_wp2_with (go_at_call 111; refine (g1 _).mono ?_; rintro e w' ⟨rfl, rfl⟩)
  go_ret
  exact ⟨ret_bool (by rw [← HB.out, Bool.eq_iff_iff]; simp; try omega), Below.refl _ _⟩
theorem code3 (s : ByteArray) (h : s.size = 3) (h0 : 0 < s.size) (h1 : 1 < s.size) (h2 : 2 < s.size) : codeB s.data.toList = (capL s[0] && (capL s[1] && capL s[2])) := by
 obtain ⟨⟨l⟩⟩ := s
 match l, h with
 | [a, b, c], _ => simp [codeB]; rfl
theorem code3c (s : ByteArray) (h : s.size = 3) (h1 : 1 < s.size) (h2 : 2 < s.size) : codeB s.data.toList = (capsB s.data.toList && (decide (65 ≤ s[1].toNat) && decide (65 ≤ s[2].toNat))) := by
 rw [code_caps]
 obtain ⟨⟨l⟩⟩ := s
 match l, h with
 | [a, b, c], _ => simp; rfl
theorem codeN (s : ByteArray) (h : s.size ≠ 3) : codeB s.data.toList = false := by
 have hl : s.data.toList.length = s.size := by simp
 unfold codeB
 rw [hl, decide_eq_false h, Bool.false_and]
theorem curr_any (s : ByteArray) (hs : s.size ≤ maxLen) {b : Bool} (hb : codeB s.data.toList = b) (w : World) : Calls Tryz.prog 67 #[.string s] w (RetB (.bool b) w) := by
 obtain ⟨c, hc⟩ : ∃ c, capsB s.data.toList = c := ⟨_, rfl⟩
 have g1 := fun w => caps_any s hs hc w
 by_cases h3 : s.size = 3
 ·have h1 : 1 < s.size := by omega
  have h2 : 2 < s.size := by omega
  rw [code3c s h3 h1 h2, hc] at hb
  have t3 : ((s.size : Int) == 3) = true := by rw [beq_iff_eq]; omega
  have HB := Lib.hid hb
  clear hb hc h3
  cases c
  all_goals
   go_enter Tryz.func67, Tryz.ntmps67
   go_wp2_with (go_at_call 111; refine (g1 _).mono ?_; rintro e w' ⟨rfl, rfl⟩)
   all_goals go_ret
   all_goals exact ⟨ret_bool (by rw [← HB.out, Bool.eq_iff_iff]; simp; try omega), Below.refl _ _⟩
 ·rw [codeN s h3] at hb
  subst hb
  have t3 : ((s.size : Int) == 3) = false := by rw [beq_eq_false_iff_ne]; omega
  clear hc h3
  unfold maxLen at hs
  cases c
  all_goals
   go_enter Tryz.func67, Tryz.ntmps67
   go_wp2_with (go_at_call 111; refine (g1 _).mono ?_; rintro e w' ⟨rfl, rfl⟩)
   go_ret
   exact ⟨rfl, Below.refl _ _⟩
theorem rcode_any (s : ByteArray) (hs : s.size ≤ maxLen) {b : Bool} (hb : codeB s.data.toList = b) (w : World) : Calls Tryz.prog 71 #[.string s] w (RetB (.bool b) w) := by
 by_cases h3 : s.size = 3
 ·have h0 : 0 < s.size := by omega
  have h1 : 1 < s.size := by omega
  have h2 : 2 < s.size := by omega
  rw [code3 s h3 h0 h1 h2] at hb
  have t3 : ((s.size : Int) == 3) = true := by rw [beq_iff_eq]; omega
  unfold capL at hb
  obtain ⟨c0, hc0⟩ : ∃ c, decide (65 ≤ s[0].toNat ∧ s[0].toNat ≤ 90) = c := ⟨_, rfl⟩
  obtain ⟨c1, hc1⟩ : ∃ c, decide (65 ≤ s[1].toNat ∧ s[1].toNat ≤ 90) = c := ⟨_, rfl⟩
  obtain ⟨c2, hc2⟩ : ∃ c, decide (65 ≤ s[2].toNat ∧ s[2].toNat ≤ 90) = c := ⟨_, rfl⟩
  have g0 := fun w => rcapital_any _ hc0 w
  have g1 := fun w => rcapital_any _ hc1 w
  have g2 := fun w => rcapital_any _ hc2 w
  rw [hc0, hc1, hc2] at hb
  clear hc0 hc1 hc2 h3
  subst hb
  cases c0
  ·go_enter Tryz.func71, Tryz.ntmps71
   go_wp2_with (go_at_call 115; (first | (with_reducible refine (g0 _).mono ?_) | (with_reducible refine (g1 _).mono ?_) | (with_reducible refine (g2 _).mono ?_)); rintro e w' ⟨rfl, rfl⟩)
   go_ret
   exact ⟨rfl, Below.refl _ _⟩
  ·cases c1
   ·go_enter Tryz.func71, Tryz.ntmps71
    go_wp2_with (go_at_call 115; (first | (with_reducible refine (g0 _).mono ?_) | (with_reducible refine (g1 _).mono ?_) | (with_reducible refine (g2 _).mono ?_)); rintro e w' ⟨rfl, rfl⟩)
    go_ret
    exact ⟨rfl, Below.refl _ _⟩
   ·go_enter Tryz.func71, Tryz.ntmps71
    go_wp2_with (go_at_call 115; (first | (with_reducible refine (g0 _).mono ?_) | (with_reducible refine (g1 _).mono ?_) | (with_reducible refine (g2 _).mono ?_)); rintro e w' ⟨rfl, rfl⟩)
    go_ret
    exact ⟨rfl, Below.refl _ _⟩
 ·rw [codeN s h3] at hb
  subst hb
  have t3 : ((s.size : Int) == 3) = false := by rw [beq_eq_false_iff_ne]; omega
  clear h3
  unfold maxLen at hs
  go_enter Tryz.func71, Tryz.ntmps71
  go_wp2
  go_ret
  exact ⟨rfl, Below.refl _ _⟩
theorem paper_long (s : ByteArray) (h : ¬ s.size ≤ 12) : paperB s.data.toList = false := by
 have hl : s.data.toList.length = s.size := by simp
 unfold paperB
 rw [hl, decide_eq_false h, Bool.and_false]
theorem paper_short (s : ByteArray) (h : s.size ≤ 12) : paperB s.data.toList = capsB s.data.toList := by
 have hl : s.data.toList.length = s.size := by simp
 unfold paperB
 rw [hl, decide_eq_true h, Bool.and_true]
theorem rpaper_any (s : ByteArray) (hs : s.size ≤ maxLen) {b : Bool} (hb : paperB s.data.toList = b) (w : World) : Calls Tryz.prog 70 #[.string s] w (RetB (.bool b) w) := by
 unfold maxLen at hs
 by_cases h0 : s.size = 0
 ·obtain rfl : false = b := by rw [← hb, paper_short s (by omega), capsB_empty s h0]
  clear hb
  go_enter Tryz.func70, Tryz.ntmps70
  go_wp2
  go_ret
  exact ⟨rfl, Below.refl _ _⟩
 have hpos : 0 < s.size := by omega
 clear h0
 by_cases hl : s.size ≤ 12
 ·rw [paper_short s hl] at hb
  have HB := Lib.hid hb
  clear hb
  cases hc : capL s[0]
  ·obtain rfl : false = b := by rw [← HB.out, capsB_first s hpos hc]
   have g1 := fun w => rcapital_any s[0].toNat hc w
   go_enter Tryz.func70, Tryz.ntmps70
   go_wp2_with (go_at_call 115; refine (g1 _).mono ?_; rintro e w' ⟨rfl, rfl⟩)
   go_ret
   exact ⟨rfl, Below.refl _ _⟩
  ·have g1 := fun w => rcapital_any s[0].toNat hc w
   have HC := Lib.hid hc
   clear hc
   go_enter Tryz.func70, Tryz.ntmps70
   go_wp2_with (go_at_call 115; refine (g1 _).mono ?_; rintro e w' ⟨rfl, rfl⟩)
   go_loop [3] (fun i => ∃ k : Nat, k ≤ s.size ∧ i = .int .i64 k ∧ capChars (s.data.toList.take k) = true) (fun i => s.size - (intOf i).toNat)
   case atStart => exact ⟨0, by omega, rfl, rfl⟩
   case round =>
    obtain ⟨k, hk, rfl, hp⟩ := hrel
    have HP := Lib.hid hp
    clear hp g1
    by_cases hlt : k < s.size
    ·obtain ⟨c, hc⟩ : ∃ c, capL s[k] = c := ⟨_, rfl⟩
     have g1 := fun w => rcapital_any s[k].toNat hc w
     have HK := Lib.hid hc
     clear hc
     cases c
     ·go_wp2_with (go_at_call 115; refine (g1 _).mono ?_; rintro e w' ⟨rfl, rfl⟩)
      all_goals first
       | (go_ret; exact ⟨ret_bool (HB.out.symm.trans (capChars_bad s k hlt (by rw [HK.out]; unfold digB; simp; omega))).symm, Below.refl _ _⟩)
       | (go_round; (case rel => exact ⟨k + 1, by omega, by go_num, capChars_snoc s k hlt (by rw [HK.out]; unfold digB; simp; omega) HP.out⟩); (case measure => simp [intOf]; omega))
     ·go_wp2_with (go_at_call 115; refine (g1 _).mono ?_; rintro e w' ⟨rfl, rfl⟩)
      go_round
      case rel => exact ⟨k + 1, by omega, by go_num, capChars_snoc s k hlt (by rw [HK.out]; rfl) HP.out⟩
      case measure => simp [intOf]; omega
    ·go_wp2
     go_ret
     obtain rfl : k = s.size := by omega
     refine ⟨ret_bool ?_, Below.refl _ _⟩
     have ha := HP.out
     rw [List.take_of_length_le (by simp)] at ha
     rw [← HB.out, capsB_good s hpos HC.out ha]
 ·obtain rfl : false = b := by rw [← hb, paper_long s hl]
  clear hb
  go_enter Tryz.func70, Tryz.ntmps70
  go_wp2
  go_ret
  exact ⟨rfl, Below.refl _ _⟩
end
section
section
section
open Go.RowKit
set_option maxHeartbeats 1000000
def leapT (y : Int) : Bool := decide (Int.tmod y 4 = 0) && (decide (Int.tmod y 100 ≠ 0) || decide (Int.tmod y 400 = 0))
theorem dleap_any (y : Int) (w : World) : Calls Tryz.prog 174 #[.int .i64 y] w (RetW (.bool (leapT y)) w) := by
 unfold leapT
 go_enter Tryz.func174, Tryz.ntmps174
 go_wp2
 all_goals go_ret
 all_goals (refine ⟨ret_bool ?_, rfl⟩; rw [Bool.eq_iff_iff]; simp [*])
theorem rleap_any (y : Int) (w : World) : Calls Tryz.prog 157 #[.int .i64 y] w (RetW (.bool (leapT y)) w) := by
 unfold leapT
 go_enter Tryz.func157, Tryz.ntmps157
 go_wp2
 all_goals go_ret
 all_goals (refine ⟨ret_bool ?_, rfl⟩; rw [Bool.eq_iff_iff]; simp [*])
theorem leapT_in {y : Int} (h1 : 2000 ≤ y) (h2 : y ≤ 2199) : leapT y = decide (lp y = 1) := by
 unfold leapT lp
 rw [Int.tmod_eq_emod_of_nonneg (by omega), Int.tmod_eq_emod_of_nonneg (by omega), Int.tmod_eq_emod_of_nonneg (by omega), Bool.eq_iff_iff]
 simp
 omega
theorem dleap_is {y : Int} {b : Bool} (h1 : 2000 ≤ y) (h2 : y ≤ 2199) (h : decide (lp y = 1) = b) (w : World) : Calls Tryz.prog 174 #[.int .i64 y] w (RetW (.bool b) w) := by
 rw [← h, ← leapT_in h1 h2]; exact dleap_any y w
theorem rleap_is {y : Int} {b : Bool} (h1 : 2000 ≤ y) (h2 : y ≤ 2199) (h : decide (lp y = 1) = b) (w : World) : Calls Tryz.prog 157 #[.int .i64 y] w (RetW (.bool b) w) := by
 rw [← h, ← leapT_in h1 h2]; exact rleap_any y w
theorem lp01 (y : Int) : lp y = 1 ∨ lp y = 0 := by have := lp_bd y; omega
theorem days_any {y : Int} (h1 : 2000 ≤ y) (h2 : y ≤ 2199) (w : World) : Calls Tryz.prog 103 #[.int .i64 y] w (RetW (.int .i64 (daysY y)) w) := by
 unfold daysY
 rcases lp01 y with h | h
 ·go_enter Tryz.func103, Tryz.ntmps103
  go_wp2_with fail
  refine (rleap_is (b := true) h1 h2 (by simp [h]) _).mono ?_
  rintro e w1 ⟨rfl, rfl⟩
  go_wp2
  go_ret
  exact ⟨ret_int (by omega), rfl⟩
 ·go_enter Tryz.func103, Tryz.ntmps103
  go_wp2_with fail
  refine (rleap_is (b := false) h1 h2 (by simp [h]) _).mono ?_
  rintro e w1 ⟨rfl, rfl⟩
  go_wp2
  go_ret
  exact ⟨ret_int (by omega), rfl⟩
theorem mlength_any {y m : Int} (h1 : 2000 ≤ y) (h2 : y ≤ 2199) (w : World) : Calls Tryz.prog 104 #[.int .i64 y, .int .i64 m] w (RetW (.int .i64 (lenM y m)) w) := by
 have hl := lp_bd y
 unfold lenM
 by_cases m2 : m = 2
 ·subst m2
  go_enter Tryz.func104, Tryz.ntmps104
  go_wp2_with fail
  refine (days_any h1 h2 _).mono ?_
  rintro e w1 ⟨rfl, rfl⟩
  unfold daysY
  go_wp2
  go_ret
  exact ⟨ret_int (by omega), rfl⟩
 ·rw [if_neg m2]
  by_cases m4 : m = 4
  ·subst m4
   go_enter Tryz.func104, Tryz.ntmps104
   go_wp2
   go_ret
   exact ⟨rfl, rfl⟩
  by_cases m6 : m = 6
  ·subst m6
   go_enter Tryz.func104, Tryz.ntmps104
   go_wp2
   go_ret
   exact ⟨rfl, rfl⟩
  by_cases m9 : m = 9
  ·subst m9
   go_enter Tryz.func104, Tryz.ntmps104
   go_wp2
   go_ret
   exact ⟨rfl, rfl⟩
  by_cases m11 : m = 11
  ·subst m11
   go_enter Tryz.func104, Tryz.ntmps104
   go_wp2
   go_ret
   exact ⟨rfl, rfl⟩
  rw [if_neg (by omega)]
  go_enter Tryz.func104, Tryz.ntmps104
  go_wp2
  go_ret
  exact ⟨rfl, rfl⟩
theorem ystart_any {y : Int} (h1 : 2000 ≤ y) (h2 : y ≤ 2200) (w : World) : Calls Tryz.prog 119 #[.int .i64 y] w (RetW (.int .i64 (ysI y)) w) := by
 unfold ysI
 by_cases hy : y > 2100
 ·rw [if_pos hy]
  go_enter Tryz.func119, Tryz.ntmps119
  go_wp2
  go_ret
  exact ⟨ret_int (by omega), rfl⟩
 ·rw [if_neg hy]
  go_enter Tryz.func119, Tryz.ntmps119
  go_wp2
  go_ret
  exact ⟨ret_int (by omega), rfl⟩
theorem dayvalid_any (n : Int) (w : World) : Calls Tryz.prog 138 #[.int .i64 n] w (RetW (.bool (decide (0 ≤ n ∧ n ≤ 73048))) w) := by
 go_enter Tryz.func138, Tryz.ntmps138
 go_wp2
 all_goals go_ret
 all_goals (refine ⟨ret_bool ?_, rfl⟩; rw [Bool.eq_iff_iff]; simp; try omega)
theorem valid_is {n : Int} {b : Bool} (h : decide (0 ≤ n ∧ n ≤ 73048) = b) (w : World) : Calls Tryz.prog 138 #[.int .i64 n] w (RetW (.bool b) w) := by rw [← h]; exact dayvalid_any n w
theorem dout_any (n : Int) (w : World) : Calls Tryz.prog 72 #[.int .i64 n] w (RetW (.bool (!decide (0 ≤ n ∧ n ≤ 73048))) w) := by
 go_enter Tryz.func72, Tryz.ntmps72
 go_wp2
 all_goals go_ret
 all_goals (refine ⟨ret_bool ?_, rfl⟩; rw [Bool.eq_iff_iff]; simp; try omega)
theorem dout_is {n : Int} {b : Bool} (h : decide (0 ≤ n ∧ n ≤ 73048) = b) (w : World) : Calls Tryz.prog 72 #[.int .i64 n] w (RetW (.bool (!b)) w) := by rw [← h]; exact dout_any n w
set_option maxHeartbeats 4000000 in
theorem dahead_any {y m : Int} (h1 : 2000 ≤ y) (h2 : y ≤ 2199) (h3 : 1 ≤ m) (h4 : m ≤ 12) (w : World) : Calls Tryz.prog 120 #[.int .i64 y, .int .i64 m] w (RetW (.int .i64 (aheadM y m)) w) := by
 rcases lp01 y with h | h
 ·have hh := m12 h3 h4
  clear h3 h4
  rcases hh with rfl | rfl | rfl | rfl | rfl | rfl | rfl | rfl | rfl | rfl | rfl | rfl <;> simp only [aheadM, h]
  all_goals
   go_enter Tryz.func120, Tryz.ntmps120
   go_wp2_with fail
   try (refine (dleap_is (b := true) h1 h2 (by simp [h]) _).mono ?_; rintro e w1 ⟨rfl, rfl⟩; go_wp2)
   go_ret
   exact ⟨rfl, rfl⟩
 ·have hh := m12 h3 h4
  clear h3 h4
  rcases hh with rfl | rfl | rfl | rfl | rfl | rfl | rfl | rfl | rfl | rfl | rfl | rfl <;> simp only [aheadM, h]
  all_goals
   go_enter Tryz.func120, Tryz.ntmps120
   go_wp2_with fail
   try (refine (dleap_is (b := false) h1 h2 (by simp [h]) _).mono ?_; rintro e w1 ⟨rfl, rfl⟩; go_wp2)
   go_ret
   exact ⟨rfl, rfl⟩
end
section
open Go.RowKit
set_option maxHeartbeats 1000000
theorem ret_t2 {k k' : IntKind} {a b c d : Int} (h : a = c) (h' : b = d) : Ending.returned (.tuple #[.int k a, .int k' b]) = .returned (.tuple #[.int k c, .int k' d]) := by rw [h, h']
def monthR (y m : Int) : Prop := 2000 ≤ y ∧ y ≤ 2199 ∧ 1 ≤ m ∧ m ≤ 12
theorem dlength_in {y m : Int} (h1 : 2000 ≤ y) (h2 : y ≤ 2199) (h3 : 1 ≤ m) (h4 : m ≤ 12) (w : World) :
  Calls Tryz.prog 118 #[.int .i64 y, .int .i64 m] w (RetW (.tuple #[.int .i64 (lenM y m), .int .i64 0]) w) := by
 by_cases h12 : m = 12
 ·subst h12
  go_enter Tryz.func118, Tryz.ntmps118
  go_wp2_with fail
  go_ret2
  exact ⟨rfl, rfl⟩
 ·have ha := ahead_succ y h3 (by omega)
  have hb := len_bd y m
  have hc := ahead_bd y h3 h4
  have hl := lp_bd y
  unfold daysY at hc
  go_enter Tryz.func118, Tryz.ntmps118
  go_wp2_with fail
  refine (dahead_any h1 h2 (by omega) (by omega) _).mono ?_
  rintro e w1 ⟨rfl, rfl⟩
  go_wp2_with fail
  refine (dahead_any h1 h2 h3 h4 _).mono ?_
  rintro e w1 ⟨rfl, rfl⟩
  go_wp2_with fail
  go_ret2
  exact ⟨ret_t2 (by omega) rfl, rfl⟩
theorem dlength_out {y m : Int} (h : ¬monthR y m) (w : World) :
  Calls Tryz.prog 118 #[.int .i64 y, .int .i64 m] w (RetW (.tuple #[.int .i64 0, .int .i64 51]) w) := by
 unfold monthR at h
 by_cases a1 : y < 2000
 ·go_enter Tryz.func118, Tryz.ntmps118
  go_wp2_with fail
  go_ret2
  exact ⟨rfl, rfl⟩
 by_cases a2 : 2199 < y
 ·go_enter Tryz.func118, Tryz.ntmps118
  go_wp2_with fail
  go_ret2
  exact ⟨rfl, rfl⟩
 by_cases a3 : m < 1
 ·go_enter Tryz.func118, Tryz.ntmps118
  go_wp2_with fail
  go_ret2
  exact ⟨rfl, rfl⟩
 have a4 : 12 < m := by omega
 go_enter Tryz.func118, Tryz.ntmps118
 go_wp2_with fail
 go_ret2
 exact ⟨rfl, rfl⟩
theorem rlength_in {y m : Int} (h1 : 2000 ≤ y) (h2 : y ≤ 2199) (h3 : 1 ≤ m) (h4 : m ≤ 12) (w : World) :
  Calls Tryz.prog 131 #[.int .i64 y, .int .i64 m] w (RetW (.tuple #[.int .i64 (lenM y m), .int .i64 0]) w) := by
 go_enter Tryz.func131, Tryz.ntmps131
 go_wp2_with fail
 refine (mlength_any h1 h2 _).mono ?_
 rintro e w1 ⟨rfl, rfl⟩
 go_wp2_with fail
 go_ret2
 exact ⟨rfl, rfl⟩
theorem rlength_out {y m : Int} (h : ¬monthR y m) (w : World) :
  Calls Tryz.prog 131 #[.int .i64 y, .int .i64 m] w (RetW (.tuple #[.int .i64 0, .int .i64 51]) w) := by
 unfold monthR at h
 by_cases a1 : y < 2000
 ·go_enter Tryz.func131, Tryz.ntmps131
  go_wp2_with fail
  go_ret2
  exact ⟨rfl, rfl⟩
 by_cases a2 : 2199 < y
 ·go_enter Tryz.func131, Tryz.ntmps131
  go_wp2_with fail
  go_ret2
  exact ⟨rfl, rfl⟩
 by_cases a3 : m < 1
 ·go_enter Tryz.func131, Tryz.ntmps131
  go_wp2_with fail
  go_ret2
  exact ⟨rfl, rfl⟩
 have a4 : 12 < m := by omega
 go_enter Tryz.func131, Tryz.ntmps131
 go_wp2_with fail
 go_ret2
 exact ⟨rfl, rfl⟩
def dateR (y m d : Int) : Prop := monthR y m ∧ 1 ≤ d ∧ d ≤ lenM y m
theorem CV.range {n y m d : Int} (h : CV n y m d) : dateR y m d := ⟨⟨h.y1, h.y2, h.m1, h.m2⟩, h.d1, h.d2⟩
theorem dateR.cv {y m d : Int} (h : dateR y m d) : ∃ n, CV n y m d := ⟨_, h.1.1, h.1.2.1, h.1.2.2.1, h.1.2.2.2, h.2.1, h.2.2, rfl⟩
theorem dfrom_in {n y m d : Int} (h : CV n y m d) (w : World) :
  Calls Tryz.prog 76 #[.int .i64 y, .int .i64 m, .int .i64 d] w (RetW (.tuple #[.int .i64 n, .int .i64 0]) w) := by
 obtain ⟨hn1, hn2⟩ := h.bd
 obtain ⟨hy1, hy2⟩ := h.year
 obtain ⟨h1, h2, h3, h4, h5, h6, h7⟩ := h
 have ha := ahead_bd y h3 h4
 have hb := len_bd y m
 have hy := ys_mono h1
 rw [show ysI 2000 = 0 by decide] at hy
 go_enter Tryz.func76, Tryz.ntmps76
 go_wp2_with fail
 refine (dlength_in h1 h2 h3 h4 _).mono ?_
 rintro e w1 ⟨rfl, rfl⟩
 go_wp2_with fail
 refine (ystart_any h1 (by omega) _).mono ?_
 rintro e w1 ⟨rfl, rfl⟩
 go_wp2_with fail
 refine (dahead_any h1 h2 h3 h4 _).mono ?_
 rintro e w1 ⟨rfl, rfl⟩
 go_wp2_with fail
 go_ret2
 exact ⟨ret_t2 (by omega) rfl, rfl⟩
theorem dfrom_out {y m d : Int} (h : ¬dateR y m d) (w : World) :
  Calls Tryz.prog 76 #[.int .i64 y, .int .i64 m, .int .i64 d] w (RetW (.tuple #[.int .i64 0, .int .i64 51]) w) := by
 unfold dateR at h
 by_cases hm : monthR y m
 ·obtain ⟨h1, h2, h3, h4⟩ := hm
  by_cases hd : d < 1
  ·go_enter Tryz.func76, Tryz.ntmps76
   go_wp2_with fail
   refine (dlength_in h1 h2 h3 h4 _).mono ?_
   rintro e w1 ⟨rfl, rfl⟩
   go_wp2_with fail
   go_ret2
   exact ⟨rfl, rfl⟩
  ·have hd2 : lenM y m < d := by
    rcases Int.lt_or_le (lenM y m) d with hx | hx
    ·exact hx
    ·exact absurd ⟨⟨h1, h2, h3, h4⟩, by omega, hx⟩ h
   go_enter Tryz.func76, Tryz.ntmps76
   go_wp2_with fail
   refine (dlength_in h1 h2 h3 h4 _).mono ?_
   rintro e w1 ⟨rfl, rfl⟩
   go_wp2_with fail
   go_ret2
   exact ⟨rfl, rfl⟩
 ·go_enter Tryz.func76, Tryz.ntmps76
  go_wp2_with fail
  refine (dlength_out hm _).mono ?_
  rintro e w1 ⟨rfl, rfl⟩
  go_wp2_with fail
  go_ret2
  exact ⟨rfl, rfl⟩
theorem rfrom_in {n y m d : Int} (h : CV n y m d) (w : World) :
  Calls Tryz.prog 87 #[.int .i64 y, .int .i64 m, .int .i64 d] w (RetW (.tuple #[.int .i64 n, .int .i64 0]) w) := by
 obtain ⟨hn1, hn2⟩ := h.bd
 obtain ⟨h1, h2, h3, h4, h5, h6, h7⟩ := h
 have H7 := Lib.hid h7
 have hb := len_bd y m
 clear h7
 go_enter Tryz.func87, Tryz.ntmps87
 go_wp2_with fail
 refine (rlength_in h1 h2 h3 h4 _).mono ?_
 rintro e w1 ⟨rfl, rfl⟩
 go_wp2_with fail
 go_loopw [10, 11] (fun a b wr => ∃ v : Int, 2000 ≤ v ∧ v ≤ y ∧ b = .int .i64 v ∧ a = .int .i64 (d - 1 + ysI v) ∧ wr = w) (fun _ b _ => (y - intOf b).toNat)
 case atStart => exact ⟨2000, by omega, by omega, rfl, vint (by rw [show ysI 2000 = 0 by decide]; omega), rfl⟩
 case round =>
  obtain ⟨v, hv1, hv2, rfl, rfl, hw⟩ := hrel
  have hs := ys_succ v hv1
  have hy0 := ys_mono hv1
  have hy1 := ys_mono (show v ≤ 2200 by omega)
  rw [show ysI 2000 = 0 by decide] at hy0
  rw [show ysI 2200 = 73049 by decide] at hy1
  by_cases hlt : v < y
  ·have hl := lp_bd v
   unfold daysY at hs
   go_wp2_with fail
   refine (days_any hv1 (by omega) _).mono ?_
   rintro e w2 ⟨rfl, rfl⟩
   unfold daysY
   go_wp2_with fail
   go_roundw
   case rel => exact ⟨v + 1, by omega, by omega, rfl, vint (by omega), trivial⟩
   case measure => simp [intOf]; omega
  ·have hvy : v = y := by omega
   subst hvy
   clear hs
   go_wp2_with fail
   go_loopw [10, 12] (fun a b wr => ∃ k : Int, 1 ≤ k ∧ k ≤ m ∧ b = .int .i64 k ∧ a = .int .i64 (d - 1 + ysI v + aheadM v k) ∧ wr = w) (fun _ b _ => (m - intOf b).toNat)
   case atStart => exact ⟨1, by omega, by omega, rfl, vint (by rw [show aheadM v 1 = 0 by simp [aheadM]]; omega), rfl⟩
   case round =>
    obtain ⟨k, hk1, hk2, rfl, rfl, hw2⟩ := hrel
    have ha := ahead_bd v hk1 (by omega)
    have hl := lp_bd v
    unfold daysY at ha
    have hb2 := len_bd v k
    by_cases hlt : k < m
    ·have hsu := ahead_succ v hk1 (by omega)
     go_wp2_with fail
     refine (mlength_any h1 h2 _).mono ?_
     rintro e w2 ⟨rfl, rfl⟩
     go_wp2_with fail
     go_roundw
     case rel => exact ⟨k + 1, by omega, by omega, rfl, vint (by omega), trivial⟩
     case measure => simp [intOf]; omega
    ·have hkm : k = m := by omega
     subst hkm
     go_wp2_with fail
     go_ret2
     exact ⟨ret_t2 (by rw [H7.out]; omega) rfl, by first | rfl | assumption | (simp [*])⟩
end
section
open Go.RowKit
set_option maxHeartbeats 2000000
theorem rfrom_out {y m d : Int} (h : ¬dateR y m d) (w : World) :
  Calls Tryz.prog 87 #[.int .i64 y, .int .i64 m, .int .i64 d] w (RetW (.tuple #[.int .i64 0, .int .i64 51]) w) := by
 unfold dateR at h
 by_cases hm : monthR y m
 ·obtain ⟨h1, h2, h3, h4⟩ := hm
  by_cases hd : d < 1
  ·go_enter Tryz.func87, Tryz.ntmps87
   go_wp2_with fail
   refine (rlength_in h1 h2 h3 h4 _).mono ?_
   rintro e w1 ⟨rfl, rfl⟩
   go_wp2_with fail
   go_ret2
   exact ⟨rfl, rfl⟩
  ·have hd2 : lenM y m < d := by
    rcases Int.lt_or_le (lenM y m) d with hx | hx
    ·exact hx
    ·exact absurd ⟨⟨h1, h2, h3, h4⟩, by omega, hx⟩ h
   go_enter Tryz.func87, Tryz.ntmps87
   go_wp2_with fail
   refine (rlength_in h1 h2 h3 h4 _).mono ?_
   rintro e w1 ⟨rfl, rfl⟩
   go_wp2_with fail
   go_ret2
   exact ⟨rfl, rfl⟩
 ·go_enter Tryz.func87, Tryz.ntmps87
  go_wp2_with fail
  refine (rlength_out hm _).mono ?_
  rintro e w1 ⟨rfl, rfl⟩
  go_wp2_with fail
  go_ret2
  exact ⟨rfl, rfl⟩
theorem results_tmp4 {fn : Func} {t u v x : Tmp} (h : fn.results = #[.tmp t, .tmp u, .tmp v, .tmp x]) (tmps : Array Value) (P : Program) (w : World) :
  (results fn tmps).run P w = .ok (.tuple #[tmps.getD t undef, tmps.getD u undef, tmps.getD v undef, tmps.getD x undef]) w := by
 simp [results, h]
theorem ret_t4 {k k' k2 k3 : IntKind} {a b c d a' b' c' d' : Int} (h : a = a') (h' : b = b') (h2 : c = c') (h3 : d = d') : Ending.returned (.tuple #[.int k a, .int k' b, .int k2 c, .int k3 d]) = .returned (.tuple #[.int k a', .int k' b', .int k2 c', .int k3 d']) := by rw [h, h', h2, h3]
theorem ys_up (y : Int) (h : 2000 ≤ y) : ysI y ≤ 366 * (y - 2000) := by
 unfold ysI
 split <;> omega
theorem dcivil_in {n y m d : Int} (h : CV n y m d) (w : World) :
  Calls Tryz.prog 90 #[.int .i64 n] w (RetW (.tuple #[.int .i64 y, .int .i64 m, .int .i64 d, .int .i64 0]) w) := by
 obtain ⟨hn1, hn2⟩ := h.bd
 obtain ⟨hy1, hy2⟩ := h.year
 obtain ⟨h1, h2, h3, h4, h5, h6, h7⟩ := h
 have hup := ys_up (y + 1) (by omega)
 have hg0 := month_guess y (n - ysI y) m h3 h4 (by omega) (by omega)
 have ha := ahead_bd y h3 h4
 have hl := lp_bd y
 unfold daysY at ha
 have hy0 := ys_mono h1
 rw [show ysI 2000 = 0 by decide] at hy0
 have H7 := Lib.hid h7
 have HG := Lib.hid hg0
 clear h7 hg0
 go_enter Tryz.func90, Tryz.ntmps90
 go_wp2_with fail
 refine (valid_is (b := true) (by simp; omega) _).mono ?_
 rintro e w1 ⟨rfl, rfl⟩
 go_wp2_with fail
 go_loopw [2] (fun a wr => ∃ v : Int, 2000 ≤ v ∧ v ≤ y ∧ a = .int .i64 v ∧ wr = w) (fun a _ => (y - intOf a).toNat)
 case atStart => exact ⟨2000 + n / 366, by omega, by omega, rfl, rfl⟩
 case round =>
  obtain ⟨v, hv1, hv2, rfl, hw⟩ := hrel
  by_cases hlt : v < y
  ·have hle : ysI (v + 1) ≤ n := by have := ys_mono (show v + 1 ≤ y by omega); omega
   go_wp2_with fail
   refine (ystart_any (by omega) (by omega) _).mono ?_
   rintro e w2 ⟨rfl, rfl⟩
   go_wp2_with fail
   go_roundw
   case rel => exact ⟨v + 1, by omega, by omega, rfl, trivial⟩
   case measure => simp [intOf]; omega
  ·have hvy : v = y := by omega
   subst hvy
   go_wp2_with fail
   refine (ystart_any (by omega) (by omega) _).mono ?_
   rintro e w2 ⟨rfl, rfl⟩
   go_wp2_with fail
   refine (ystart_any (by omega) (by omega) _).mono ?_
   rintro e w2 ⟨rfl, rfl⟩
   have hq0 : 0 ≤ n - ysI v := by omega
   have hq1 : n - ysI v ≤ 366 := by have := H7.out; omega
   rcases HG.out with ⟨hg, hm12 | hlt2⟩ | ⟨hg, hm2⟩
   ·subst hm12
    go_wp2_with fail
    refine (dahead_any h1 h2 (by omega) (by omega) _).mono ?_
    rintro e w2 ⟨rfl, rfl⟩
    go_wp2_with fail
    (try simp only [Exit.inBlock, Exit.then])
    refine bodyPost_ret (results_tmp4 rfl _ _ _) rfl ?_
    exact ⟨ret_t4 rfl (by omega) (by have := H7.out; omega) rfl, by first | rfl | assumption | (simp [*])⟩
   ·have hm12 : m < 12 ∨ m = 12 := by omega
    rcases hm12 with hm12 | rfl
    ·go_wp2_with fail
     refine (dahead_any h1 h2 (by omega) (by omega) _).mono ?_
     rintro e w2 ⟨rfl, rfl⟩
     go_wp2_with fail
     refine (dahead_any h1 h2 (by omega) (by omega) _).mono ?_
     rintro e w2 ⟨rfl, rfl⟩
     go_wp2_with fail
     (try simp only [Exit.inBlock, Exit.then])
     refine bodyPost_ret (results_tmp4 rfl _ _ _) rfl ?_
     exact ⟨ret_t4 rfl (by omega) (by have := H7.out; omega) rfl, by first | rfl | assumption | (simp [*])⟩
    ·go_wp2_with fail
     refine (dahead_any h1 h2 (by omega) (by omega) _).mono ?_
     rintro e w2 ⟨rfl, rfl⟩
     go_wp2_with fail
     (try simp only [Exit.inBlock, Exit.then])
     refine bodyPost_ret (results_tmp4 rfl _ _ _) rfl ?_
     exact ⟨ret_t4 rfl (by omega) (by have := H7.out; omega) rfl, by first | rfl | assumption | (simp [*])⟩
   ·have hle : aheadM v m ≤ n - ysI v := by have := H7.out; omega
    have hg2 : m - 1 + 1 = m := by omega
    go_wp2_with fail
    refine (dahead_any h1 h2 (by omega) (by omega) _).mono ?_
    rintro e w2 ⟨rfl, rfl⟩
    go_wp2_with fail
    refine (dahead_any h1 h2 (by omega) (by omega) _).mono ?_
    rintro e w2 ⟨rfl, rfl⟩
    go_wp2_with fail
    (try simp only [Exit.inBlock, Exit.then])
    refine bodyPost_ret (results_tmp4 rfl _ _ _) rfl ?_
    exact ⟨ret_t4 rfl (by omega) (by have := H7.out; omega) rfl, by first | rfl | assumption | (simp [*])⟩
theorem rcivil_in {n y m d : Int} (h : CV n y m d) (w : World) :
  Calls Tryz.prog 57 #[.int .i64 n] w (RetW (.tuple #[.int .i64 y, .int .i64 m, .int .i64 d, .int .i64 0]) w) := by
 obtain ⟨hn1, hn2⟩ := h.bd
 obtain ⟨hy1, hy2⟩ := h.year
 obtain ⟨h1, h2, h3, h4, h5, h6, h7⟩ := h
 have hs := ys_succ y h1
 have H7 := Lib.hid h7
 have HS := Lib.hid hs
 clear h7 hs
 go_enter Tryz.func57, Tryz.ntmps57
 go_wp2_with fail
 refine (dout_is (b := true) (by simp; omega) _).mono ?_
 rintro e w1 ⟨rfl, rfl⟩
 go_wp2_with fail
 go_loopw [0, 2] (fun q a wr => ∃ v : Int, 2000 ≤ v ∧ v ≤ y ∧ q = .int .i64 (n - ysI v) ∧ a = .int .i64 v ∧ wr = w) (fun _ a _ => (y - intOf a).toNat)
 case atStart => exact ⟨2000, by omega, by omega, vint (by rw [show ysI 2000 = 0 by decide]; omega), rfl, rfl⟩
 case round =>
  obtain ⟨v, hv1, hv2, rfl, rfl, hw⟩ := hrel
  have hl := lp_bd v
  have hyv := ys_mono hv1
  rw [show ysI 2000 = 0 by decide] at hyv
  have hyw := ys_mono (show v ≤ 2200 by omega)
  rw [show ysI 2200 = 73049 by decide] at hyw
  by_cases hlt : v < y
  ·have hle : ysI (v + 1) ≤ n := by have := ys_mono (show v + 1 ≤ y by omega); omega
   have hsv := ys_succ v hv1
   unfold daysY at hsv
   have hd : 365 + lp v ≤ n - ysI v := by omega
   have hn : n - ysI v - (365 + lp v) = n - ysI (v + 1) := by omega
   have HN := Lib.hid hn
   clear hsv hn
   go_wp2_with fail
   refine (days_any (by omega) (by omega) _).mono ?_
   rintro e w2 ⟨rfl, rfl⟩
   unfold daysY
   go_wp2_with fail
   refine (days_any (by omega) (by omega) _).mono ?_
   rintro e w2 ⟨rfl, rfl⟩
   unfold daysY
   go_wp2_with fail
   go_roundw
   case rel => exact ⟨v + 1, by omega, by omega, vint HN.out, rfl, trivial⟩
   case measure => simp [intOf]; omega
  ·have hvy : v = y := by omega
   subst hvy
   have hd : n - ysI v < 365 + lp v := by have := HS.out; unfold daysY at this; omega
   go_wp2_with fail
   refine (days_any (by omega) (by omega) _).mono ?_
   rintro e w2 ⟨rfl, rfl⟩
   unfold daysY
   go_wp2_with fail
   go_loopw [0, 3] (fun q a wr => ∃ k : Int, 1 ≤ k ∧ k ≤ m ∧ q = .int .i64 (n - ysI v - aheadM v k) ∧ a = .int .i64 k ∧ wr = w) (fun _ a _ => (m - intOf a).toNat)
   case atStart => exact ⟨1, by omega, by omega, vint (by rw [show aheadM v 1 = 0 by simp [aheadM]]; omega), rfl, by first | exact hw | rfl⟩
   case round =>
    obtain ⟨k, hk1, hk2, rfl, rfl, hw2⟩ := hrel
    have ha := ahead_bd v hk1 (by omega)
    unfold daysY at ha
    have hb2 := len_bd v k
    by_cases hlt : k < m
    ·have hmm := ahead_mono v hk1 hlt h4
     have hsu := ahead_succ v hk1 (by omega)
     have hd : lenM v k ≤ n - ysI v - aheadM v k := by have := H7.out; omega
     have hn : n - ysI v - aheadM v k - lenM v k = n - ysI v - aheadM v (k + 1) := by omega
     have HN := Lib.hid hn
     clear hsu hn
     go_wp2_with fail
     refine (mlength_any h1 h2 _).mono ?_
     rintro e w2 ⟨rfl, rfl⟩
     go_wp2_with fail
     refine (mlength_any h1 h2 _).mono ?_
     rintro e w2 ⟨rfl, rfl⟩
     go_wp2_with fail
     go_roundw
     case rel => exact ⟨k + 1, by omega, by omega, vint HN.out, rfl, trivial⟩
     case measure => simp [intOf]; omega
    ·have hkm : k = m := by omega
     subst hkm
     have hd : n - ysI v - aheadM v k < lenM v k := by have := H7.out; omega
     have hd0 : 0 ≤ n - ysI v - aheadM v k := by have := H7.out; omega
     go_wp2_with fail
     refine (mlength_any h1 h2 _).mono ?_
     rintro e w2 ⟨rfl, rfl⟩
     go_wp2_with fail
     (try simp only [Exit.inBlock, Exit.then])
     refine bodyPost_ret (results_tmp4 rfl _ _ _) rfl ?_
     exact ⟨ret_t4 rfl rfl (by have := H7.out; omega) rfl, by first | rfl | assumption | (simp [*])⟩
theorem dcivil_out {n : Int} (h : ¬(0 ≤ n ∧ n ≤ 73048)) (w : World) :
  Calls Tryz.prog 90 #[.int .i64 n] w (RetW (.tuple #[.int .i64 0, .int .i64 0, .int .i64 0, .int .i64 50]) w) := by
 go_enter Tryz.func90, Tryz.ntmps90
 go_wp2_with fail
 refine (valid_is (b := false) (by simp; omega) _).mono ?_
 rintro e w1 ⟨rfl, rfl⟩
 go_wp2_with fail
 (try simp only [Exit.inBlock, Exit.then])
 refine bodyPost_ret (results_tmp4 rfl _ _ _) rfl ?_
 exact ⟨rfl, rfl⟩
theorem rcivil_out {n : Int} (h : ¬(0 ≤ n ∧ n ≤ 73048)) (w : World) :
  Calls Tryz.prog 57 #[.int .i64 n] w (RetW (.tuple #[.int .i64 0, .int .i64 0, .int .i64 0, .int .i64 50]) w) := by
 go_enter Tryz.func57, Tryz.ntmps57
 go_wp2_with fail
 refine (dout_is (b := false) (by simp; omega) _).mono ?_
 rintro e w1 ⟨rfl, rfl⟩
 go_wp2_with fail
 (try simp only [Exit.inBlock, Exit.then])
 refine bodyPost_ret (results_tmp4 rfl _ _ _) rfl ?_
 exact ⟨rfl, rfl⟩
end
end
section
section
open Go.RowKit
set_option maxHeartbeats 1000000
def isDg (c : UInt8) : Bool := decide (48 ≤ c.toNat ∧ c.toNat ≤ 57)
def numV (l : List UInt8) : Int := l.foldl (fun a c => 10 * a + ((c.toNat : Int) - 48)) 0
theorem numV_snoc (l : List UInt8) (c : UInt8) : numV (l ++ [c]) = 10 * numV l + ((c.toNat : Int) - 48) := by simp [numV]
theorem pow_succ10 (k : Nat) : (10 : Int) ^ (k + 1) = 10 * 10 ^ k := by rw [Int.pow_succ, Int.mul_comm]
theorem numV_bd : ∀ (k : Nat) (l : List UInt8), l.length = k → (∀ c ∈ l, isDg c = true) → 0 ≤ numV l ∧ numV l < 10 ^ k
 | 0, l, h, _ => by
  have : l = [] := List.length_eq_zero_iff.1 h
  subst this
  simp [numV]
 | k + 1, l, h, hd => by
  have hne : l ≠ [] := by intro e; rw [e] at h; simp at h
  have hl := (List.dropLast_concat_getLast hne).symm
  have ih := numV_bd k l.dropLast (by simp; omega) (fun c hc => hd c (List.dropLast_subset _ hc))
  have hc := hd _ (List.getLast_mem hne)
  simp only [isDg, decide_eq_true_eq] at hc
  rw [hl, numV_snoc, pow_succ10]
  omega
theorem numV_bd10 (l : List UInt8) (h : l.length ≤ 10) (hd : ∀ c ∈ l, isDg c = true) : 0 ≤ numV l ∧ numV l < 10000000000 := by
 obtain ⟨a, b⟩ := numV_bd l.length l rfl hd
 refine ⟨a, Int.lt_of_lt_of_le b ?_⟩
 have e : (10000000000 : Int) = 10 ^ 10 := by decide
 rw [e]
 exact_mod_cast Nat.pow_le_pow_right (by omega) h
theorem take_snocD (s : ByteArray) (k : Nat) (h : k < s.size) : s.data.toList.take (k + 1) = s.data.toList.take k ++ [s[k]] := by
 rw [List.take_succ_eq_append_getElem (by simpa using h)]; rfl
theorem u8sub {c : UInt8} (h : isDg c = true) : ((c - 48).toNat : Int) = (c.toNat : Int) - 48 := by
 simp only [isDg, decide_eq_true_eq] at h
 rw [UInt8.toNat_sub_of_le]
 ·have : (48 : UInt8).toNat = 48 := rfl
  omega
 ·show (48 : UInt8).toNat ≤ c.toNat
  exact h.1
theorem ret_ib {k : IntKind} {a b : Int} {c : Bool} (h : a = b) : Ending.returned (.tuple #[.int k a, .bool c]) = .returned (.tuple #[.int k b, .bool c]) := by rw [h]
theorem dnum_yes (s : ByteArray) (hs : s.size ≤ 10) (hd : ∀ k (h : k < s.size), isDg s[k] = true) (w : World) :
  Calls Tryz.prog 75 #[.string s] w (RetW (.tuple #[.int .i64 (numV s.data.toList), .bool true]) w) := by
 have HD := Lib.hid hd
 clear hd
 go_enter Tryz.func75, Tryz.ntmps75
 go_wp2_with fail
 go_loopw [4, 8] (fun n i wr => ∃ k : Nat, k ≤ s.size ∧ i = .int .i64 k ∧ n = .int .i64 (numV (s.data.toList.take k)) ∧ wr = w) (fun _ i _ => s.size - (intOf i).toNat)
 case atStart => exact ⟨0, Nat.zero_le _, rfl, rfl, rfl⟩
 case round =>
  obtain ⟨k, hk, rfl, rfl, hw⟩ := hrel
  have hb := numV_bd10 (s.data.toList.take k) (by simp; omega) (by
   intro c hc
   obtain ⟨i, hi, rfl⟩ := List.getElem_of_mem hc
   rw [List.getElem_take]
   exact HD.out i (by simp at hi; omega))
  by_cases hlt : k < s.size
  ·have hsn := numV_snoc (s.data.toList.take k) s[k]
   rw [← take_snocD s k hlt] at hsn
   have hdg := HD.out k hlt
   have h48 : 48 ≤ (s[k].toNat : Int) ∧ (s[k].toNat : Int) ≤ 57 := by simp only [isDg, decide_eq_true_eq] at hdg; omega
   obtain ⟨h48a, h48b⟩ := h48
   have hu := Lib.hid (u8sub hdg)
   have HS := Lib.hid hsn
   clear hsn hdg
   go_wp2_with fail
   all_goals
    go_roundw
    case rel => exact ⟨k + 1, by omega, by go_num, by rw [HS.out], trivial⟩
    case measure => simp [intOf]; omega
  ·have hks : k = s.size := by omega
   subst hks
   go_wp2_with fail
   go_ret2
   exact ⟨ret_ib (by rw [List.take_of_length_le (by simp)]), by first | rfl | assumption | (simp [*])⟩
theorem dnum_no (s : ByteArray) (hs : s.size ≤ 10) (j : Nat) (hj : j < s.size) (hd : ∀ k (h : k < s.size), k < j → isDg s[k] = true) (hn : isDg s[j] = false) (w : World) :
  Calls Tryz.prog 75 #[.string s] w (RetW (.tuple #[.int .i64 0, .bool false]) w) := by
 have HD := Lib.hid hd
 clear hd
 go_enter Tryz.func75, Tryz.ntmps75
 go_wp2_with fail
 go_loopw [4, 8] (fun n i wr => ∃ k : Nat, k ≤ j ∧ i = .int .i64 k ∧ n = .int .i64 (numV (s.data.toList.take k)) ∧ wr = w) (fun _ i _ => j - (intOf i).toNat)
 case atStart => exact ⟨0, Nat.zero_le _, rfl, rfl, rfl⟩
 case round =>
  obtain ⟨k, hk, rfl, rfl, hw⟩ := hrel
  have hb := numV_bd10 (s.data.toList.take k) (by simp; omega) (by
   intro c hc
   obtain ⟨i, hi, rfl⟩ := List.getElem_of_mem hc
   rw [List.getElem_take]
   simp at hi
   exact HD.out i (by omega) (by omega))
  have hlt0 : k < s.size := by omega
  by_cases hlt : k < j
  ·have hsn := numV_snoc (s.data.toList.take k) s[k]
   rw [← take_snocD s k hlt0] at hsn
   have hdg := HD.out k hlt0 hlt
   have h48 : 48 ≤ (s[k].toNat : Int) ∧ (s[k].toNat : Int) ≤ 57 := by simp only [isDg, decide_eq_true_eq] at hdg; omega
   obtain ⟨h48a, h48b⟩ := h48
   have HS := Lib.hid hsn
   clear hsn hdg
   go_wp2_with fail
   all_goals
    go_roundw
    case rel => exact ⟨k + 1, by omega, by go_num, by rw [HS.out], trivial⟩
    case measure => simp [intOf]; omega
  ·have hks : k = j := by omega
   subst hks
   have hn2 : (s[k].toNat : Int) < 48 ∨ 57 < (s[k].toNat : Int) := by simp only [isDg, decide_eq_false_iff_not] at hn; omega
   clear hn hlt
   rcases hn2 with hn2 | hn2
   ·go_wp2_with fail
    go_ret2
    exact ⟨rfl, by first | rfl | assumption | (simp [*])⟩
   ·go_wp2_with fail
    go_ret2
    exact ⟨rfl, by first | rfl | assumption | (simp [*])⟩
theorem rnum_yes (s : ByteArray) (hs : s.size ≤ 10) (hd : ∀ k (h : k < s.size), isDg s[k] = true) (w : World) :
  Calls Tryz.prog 86 #[.string s] w (RetW (.tuple #[.int .i64 (numV s.data.toList), .bool true]) w) := by
 have HD := Lib.hid hd
 clear hd
 go_enter Tryz.func86, Tryz.ntmps86
 go_wp2_with fail
 go_loopw [4, 5] (fun n i wr => ∃ k : Nat, k ≤ s.size ∧ i = .int .i64 k ∧ n = .int .i64 (numV (s.data.toList.take k)) ∧ wr = w) (fun _ i _ => s.size - (intOf i).toNat)
 case atStart => exact ⟨0, Nat.zero_le _, rfl, rfl, rfl⟩
 case round =>
  obtain ⟨k, hk, rfl, rfl, hw⟩ := hrel
  have hb := numV_bd10 (s.data.toList.take k) (by simp; omega) (by
   intro c hc
   obtain ⟨i, hi, rfl⟩ := List.getElem_of_mem hc
   rw [List.getElem_take]
   exact HD.out i (by simp at hi; omega))
  by_cases hlt : k < s.size
  ·have hsn := numV_snoc (s.data.toList.take k) s[k]
   rw [← take_snocD s k hlt] at hsn
   have hdg := HD.out k hlt
   have h48 : 48 ≤ (s[k].toNat : Int) ∧ (s[k].toNat : Int) ≤ 57 := by simp only [isDg, decide_eq_true_eq] at hdg; omega
   obtain ⟨h48a, h48b⟩ := h48
   have hu := Lib.hid (u8sub hdg)
   have HS := Lib.hid hsn
   clear hsn hdg
   go_wp2_with fail
   all_goals
    go_roundw
    case rel => exact ⟨k + 1, by omega, by go_num, by rw [HS.out], trivial⟩
    case measure => simp [intOf]; omega
  ·have hks : k = s.size := by omega
   subst hks
   go_wp2_with fail
   go_ret2
   exact ⟨ret_ib (by rw [List.take_of_length_le (by simp)]), by first | rfl | assumption | (simp [*])⟩
theorem rnum_no (s : ByteArray) (hs : s.size ≤ 10) (j : Nat) (hj : j < s.size) (hd : ∀ k (h : k < s.size), k < j → isDg s[k] = true) (hn : isDg s[j] = false) (w : World) :
  Calls Tryz.prog 86 #[.string s] w (RetW (.tuple #[.int .i64 0, .bool false]) w) := by
 have HD := Lib.hid hd
 clear hd
 go_enter Tryz.func86, Tryz.ntmps86
 go_wp2_with fail
 go_loopw [4, 5] (fun n i wr => ∃ k : Nat, k ≤ j ∧ i = .int .i64 k ∧ n = .int .i64 (numV (s.data.toList.take k)) ∧ wr = w) (fun _ i _ => j - (intOf i).toNat)
 case atStart => exact ⟨0, Nat.zero_le _, rfl, rfl, rfl⟩
 case round =>
  obtain ⟨k, hk, rfl, rfl, hw⟩ := hrel
  have hb := numV_bd10 (s.data.toList.take k) (by simp; omega) (by
   intro c hc
   obtain ⟨i, hi, rfl⟩ := List.getElem_of_mem hc
   rw [List.getElem_take]
   simp at hi
   exact HD.out i (by omega) (by omega))
  have hlt0 : k < s.size := by omega
  by_cases hlt : k < j
  ·have hsn := numV_snoc (s.data.toList.take k) s[k]
   rw [← take_snocD s k hlt0] at hsn
   have hdg := HD.out k hlt0 hlt
   have h48 : 48 ≤ (s[k].toNat : Int) ∧ (s[k].toNat : Int) ≤ 57 := by simp only [isDg, decide_eq_true_eq] at hdg; omega
   obtain ⟨h48a, h48b⟩ := h48
   have HS := Lib.hid hsn
   clear hsn hdg
   go_wp2_with fail
   all_goals
    go_roundw
    case rel => exact ⟨k + 1, by omega, by go_num, by rw [HS.out], trivial⟩
    case measure => simp [intOf]; omega
  ·have hks : k = j := by omega
   subst hks
   have hn2 : (s[k].toNat : Int) < 48 ∨ 57 < (s[k].toNat : Int) := by simp only [isDg, decide_eq_false_iff_not] at hn; omega
   clear hn hlt
   rcases hn2 with hn2 | hn2
   ·go_wp2_with fail
    go_ret2
    exact ⟨rfl, by first | rfl | assumption | (simp [*])⟩
   ·go_wp2_with fail
    go_ret2
    exact ⟨rfl, by first | rfl | assumption | (simp [*])⟩
end
section
open Go.RowKit
set_option maxHeartbeats 1000000
def numB (s : ByteArray) : Bool := s.data.toList.all isDg
def numI (s : ByteArray) : Int := if numB s = true then numV s.data.toList else 0
theorem numB_yes {s : ByteArray} (h : numB s = true) (k : Nat) (hk : k < s.size) : isDg s[k] = true := by
 unfold numB at h
 rw [List.all_eq_true] at h
 refine h _ ?_
 show s.data[k] ∈ s.data.toList
 simp
theorem numB_no {s : ByteArray} (h : numB s = false) : ∃ (j : Nat) (hj : j < s.size), (∀ k (h : k < s.size), k < j → isDg s[k] = true) ∧ isDg s[j] = false := by
 have hlt : s.data.toList.findIdx (fun c => !isDg c) < s.data.toList.length := by
  apply List.findIdx_lt_length_of_exists
  unfold numB at h
  rw [List.all_eq_false] at h
  obtain ⟨c, hc, hd⟩ := h
  exact ⟨c, hc, by simpa using hd⟩
 have hlt2 : s.data.toList.findIdx (fun c => !isDg c) < s.size := by simpa using hlt
 refine ⟨_, hlt2, fun k hk hkj => ?_, ?_⟩
 ·have := List.not_of_lt_findIdx (p := fun c => !isDg c) (xs := s.data.toList) hkj
  have h2 : isDg s.data[k] = true := by simpa using this
  exact h2
 ·have := List.findIdx_getElem (p := fun c => !isDg c) (xs := s.data.toList) (w := hlt)
  have h2 : isDg (s.data[s.data.toList.findIdx (fun c => !isDg c)]'hlt2) = false := by simpa using this
  exact h2
theorem dnum_any (s : ByteArray) (hs : s.size ≤ 10) (w : World) : Calls Tryz.prog 75 #[.string s] w (RetW (.tuple #[.int .i64 (numI s), .bool (numB s)]) w) := by
 unfold numI
 cases h : numB s
 ·obtain ⟨j, hj, h1, h2⟩ := numB_no h
  rw [if_neg (by simp)]
  exact dnum_no s hs j hj h1 h2 w
 ·rw [if_pos rfl]
  exact dnum_yes s hs (numB_yes h) w
theorem rnum_any (s : ByteArray) (hs : s.size ≤ 10) (w : World) : Calls Tryz.prog 86 #[.string s] w (RetW (.tuple #[.int .i64 (numI s), .bool (numB s)]) w) := by
 unfold numI
 cases h : numB s
 ·obtain ⟨j, hj, h1, h2⟩ := numB_no h
  rw [if_neg (by simp)]
  exact rnum_no s hs j hj h1 h2 w
 ·rw [if_pos rfl]
  exact rnum_yes s hs (numB_yes h) w
def formB (s : ByteArray) : Bool := if h : s.size = 10 then decide (s[4].toNat = 45 ∧ s[7].toNat = 45) && (numB (s.extract 0 4) && numB (s.extract 5 7) && numB (s.extract 8 s.size)) else false
theorem ext_le (s : ByteArray) (a b : Nat) : (s.extract a b).size ≤ b - a := by
 rw [ByteArray.size_extract]; omega
theorem dparse_form (s : ByteArray) (h : formB s = false) (w : World) : Calls Tryz.prog 47 #[.string s] w (RetW (.tuple #[.int .i64 0, .int .i64 52]) w) := by
 by_cases hz : s.size = 10
 ·obtain ⟨g4, g7⟩ : 4 < s.size ∧ 7 < s.size := by omega
  have e1 : ((s.size : Int) != 10) = false := by rw [hz]; rfl
  unfold formB at h
  rw [dif_pos hz] at h
  by_cases h4 : s[4].toNat = 45
  ·have e4 : ((s[4].toNat : Int) != 45) = false := by rw [h4]; rfl
   by_cases h7 : s[7].toNat = 45
   ·have e7 : ((s[7].toNat : Int) != 45) = false := by rw [h7]; rfl
    rw [decide_eq_true (by exact ⟨h4, h7⟩), Bool.true_and] at h
    have l1 : 10 ≤ s.size := by omega
    have l2 : s.size ≤ 10 := by omega
    clear hz h4 h7
    cases b1 : numB (s.extract 0 4)
    ·clear h
     go_enter Tryz.func47, Tryz.ntmps47
     go_wp2_with fail
     refine (dnum_any _ (by have := ext_le s 0 4; omega) _).mono ?_
     rintro e w1 ⟨rfl, rfl⟩
     go_wp2_with fail
     refine (dnum_any _ (by have := ext_le s 5 7; omega) _).mono ?_
     rintro e w1 ⟨rfl, rfl⟩
     go_wp2_with fail
     refine (dnum_any _ (by have := ext_le s 8 s.size; omega) _).mono ?_
     rintro e w1 ⟨rfl, rfl⟩
     go_wp2_with fail
     go_ret2
     exact ⟨rfl, rfl⟩
    ·rw [b1, Bool.true_and] at h
     cases b2 : numB (s.extract 5 7)
     ·clear h
      go_enter Tryz.func47, Tryz.ntmps47
      go_wp2_with fail
      refine (dnum_any _ (by have := ext_le s 0 4; omega) _).mono ?_
      rintro e w1 ⟨rfl, rfl⟩
      go_wp2_with fail
      refine (dnum_any _ (by have := ext_le s 5 7; omega) _).mono ?_
      rintro e w1 ⟨rfl, rfl⟩
      go_wp2_with fail
      refine (dnum_any _ (by have := ext_le s 8 s.size; omega) _).mono ?_
      rintro e w1 ⟨rfl, rfl⟩
      go_wp2_with fail
      go_ret2
      exact ⟨rfl, rfl⟩
     ·rw [b2, Bool.true_and] at h
      go_enter Tryz.func47, Tryz.ntmps47
      go_wp2_with fail
      refine (dnum_any _ (by have := ext_le s 0 4; omega) _).mono ?_
      rintro e w1 ⟨rfl, rfl⟩
      go_wp2_with fail
      refine (dnum_any _ (by have := ext_le s 5 7; omega) _).mono ?_
      rintro e w1 ⟨rfl, rfl⟩
      go_wp2_with fail
      refine (dnum_any _ (by have := ext_le s 8 s.size; omega) _).mono ?_
      rintro e w1 ⟨rfl, rfl⟩
      go_wp2_with fail
      go_ret2
      exact ⟨rfl, rfl⟩
   ·have e7 : ((s[7].toNat : Int) != 45) = true := by rw [bne_iff_ne]; omega
    have l1 : 10 ≤ s.size := by omega
    have l2 : s.size ≤ 10 := by omega
    clear hz h4 h7 h
    go_enter Tryz.func47, Tryz.ntmps47
    go_wp2_with fail
    go_ret2
    exact ⟨rfl, rfl⟩
  ·have e4 : ((s[4].toNat : Int) != 45) = true := by rw [bne_iff_ne]; omega
   have l1 : 10 ≤ s.size := by omega
   have l2 : s.size ≤ 10 := by omega
   clear hz h4 h
   go_enter Tryz.func47, Tryz.ntmps47
   go_wp2_with fail
   go_ret2
   exact ⟨rfl, rfl⟩
 ·have e1 : ((s.size : Int) != 10) = true := by rw [bne_iff_ne]; omega
  clear hz h
  go_enter Tryz.func47, Tryz.ntmps47
  go_wp2_with fail
  go_ret2
  exact ⟨rfl, rfl⟩
theorem dparse_num (s : ByteArray) (h : formB s = true) {v e : Int} (w : World)
  (hc : Calls Tryz.prog 76 #[.int .i64 (numI (s.extract 0 4)), .int .i64 (numI (s.extract 5 7)), .int .i64 (numI (s.extract 8 s.size))] w (RetW (.tuple #[.int .i64 v, .int .i64 e]) w)) :
  Calls Tryz.prog 47 #[.string s] w (RetW (.tuple #[.int .i64 v, .int .i64 e]) w) := by
 have HC := Lib.hid hc
 clear hc
 unfold formB at h
 by_cases hz : s.size = 10
 ·rw [dif_pos hz] at h
  obtain ⟨g4, g7⟩ : 4 < s.size ∧ 7 < s.size := by omega
  have e1 : ((s.size : Int) != 10) = false := by rw [hz]; rfl
  simp only [Bool.and_eq_true, decide_eq_true_eq] at h
  obtain ⟨⟨h4, h7⟩, ⟨b1, b2⟩, b3⟩ := h
  have e4 : ((s[4].toNat : Int) != 45) = false := by rw [h4]; rfl
  have e7 : ((s[7].toNat : Int) != 45) = false := by rw [h7]; rfl
  have l1 : 10 ≤ s.size := by omega
  have l2 : s.size ≤ 10 := by omega
  clear hz h4 h7
  go_enter Tryz.func47, Tryz.ntmps47
  go_wp2_with fail
  refine (dnum_any _ (by have := ext_le s 0 4; omega) _).mono ?_
  rintro e w1 ⟨rfl, rfl⟩
  go_wp2_with fail
  refine (dnum_any _ (by have := ext_le s 5 7; omega) _).mono ?_
  rintro e w1 ⟨rfl, rfl⟩
  go_wp2_with fail
  refine (dnum_any _ (by have := ext_le s 8 s.size; omega) _).mono ?_
  rintro e w1 ⟨rfl, rfl⟩
  go_wp2_with fail
  refine HC.out.mono ?_
  rintro e' w1 ⟨rfl, rfl⟩
  go_wp2_with fail
  go_ret2
  exact ⟨rfl, rfl⟩
 ·rw [dif_neg hz] at h
  cases h
theorem rparse_form (s : ByteArray) (h : formB s = false) (w : World) : Calls Tryz.prog 50 #[.string s] w (RetW (.tuple #[.int .i64 0, .int .i64 52]) w) := by
 by_cases hz : s.size = 10
 ·obtain ⟨g4, g7⟩ : 4 < s.size ∧ 7 < s.size := by omega
  have e1 : ((s.size : Int) != 10) = false := by rw [hz]; rfl
  unfold formB at h
  rw [dif_pos hz] at h
  by_cases h4 : s[4].toNat = 45
  ·have e4 : ((s[4].toNat : Int) != 45) = false := by rw [h4]; rfl
   by_cases h7 : s[7].toNat = 45
   ·have e7 : ((s[7].toNat : Int) != 45) = false := by rw [h7]; rfl
    rw [decide_eq_true (by exact ⟨h4, h7⟩), Bool.true_and] at h
    have l1 : 10 ≤ s.size := by omega
    have l2 : s.size ≤ 10 := by omega
    clear hz h4 h7
    cases b1 : numB (s.extract 0 4)
    ·clear h
     go_enter Tryz.func50, Tryz.ntmps50
     go_wp2_with fail
     refine (rnum_any _ (by have := ext_le s 0 4; omega) _).mono ?_
     rintro e w1 ⟨rfl, rfl⟩
     go_wp2_with fail
     refine (rnum_any _ (by have := ext_le s 5 7; omega) _).mono ?_
     rintro e w1 ⟨rfl, rfl⟩
     go_wp2_with fail
     refine (rnum_any _ (by have := ext_le s 8 s.size; omega) _).mono ?_
     rintro e w1 ⟨rfl, rfl⟩
     go_wp2_with fail
     go_ret2
     exact ⟨rfl, rfl⟩
    ·rw [b1, Bool.true_and] at h
     cases b2 : numB (s.extract 5 7)
     ·clear h
      go_enter Tryz.func50, Tryz.ntmps50
      go_wp2_with fail
      refine (rnum_any _ (by have := ext_le s 0 4; omega) _).mono ?_
      rintro e w1 ⟨rfl, rfl⟩
      go_wp2_with fail
      refine (rnum_any _ (by have := ext_le s 5 7; omega) _).mono ?_
      rintro e w1 ⟨rfl, rfl⟩
      go_wp2_with fail
      refine (rnum_any _ (by have := ext_le s 8 s.size; omega) _).mono ?_
      rintro e w1 ⟨rfl, rfl⟩
      go_wp2_with fail
      go_ret2
      exact ⟨rfl, rfl⟩
     ·rw [b2, Bool.true_and] at h
      go_enter Tryz.func50, Tryz.ntmps50
      go_wp2_with fail
      refine (rnum_any _ (by have := ext_le s 0 4; omega) _).mono ?_
      rintro e w1 ⟨rfl, rfl⟩
      go_wp2_with fail
      refine (rnum_any _ (by have := ext_le s 5 7; omega) _).mono ?_
      rintro e w1 ⟨rfl, rfl⟩
      go_wp2_with fail
      refine (rnum_any _ (by have := ext_le s 8 s.size; omega) _).mono ?_
      rintro e w1 ⟨rfl, rfl⟩
      go_wp2_with fail
      go_ret2
      exact ⟨rfl, rfl⟩
   ·have e7 : ((s[7].toNat : Int) != 45) = true := by rw [bne_iff_ne]; omega
    have l1 : 10 ≤ s.size := by omega
    have l2 : s.size ≤ 10 := by omega
    clear hz h4 h7 h
    go_enter Tryz.func50, Tryz.ntmps50
    go_wp2_with fail
    go_ret2
    exact ⟨rfl, rfl⟩
  ·have e4 : ((s[4].toNat : Int) != 45) = true := by rw [bne_iff_ne]; omega
   have l1 : 10 ≤ s.size := by omega
   have l2 : s.size ≤ 10 := by omega
   clear hz h4 h
   go_enter Tryz.func50, Tryz.ntmps50
   go_wp2_with fail
   go_ret2
   exact ⟨rfl, rfl⟩
 ·have e1 : ((s.size : Int) != 10) = true := by rw [bne_iff_ne]; omega
  clear hz h
  go_enter Tryz.func50, Tryz.ntmps50
  go_wp2_with fail
  go_ret2
  exact ⟨rfl, rfl⟩
theorem rparse_num (s : ByteArray) (h : formB s = true) {v e : Int} (w : World)
  (hc : Calls Tryz.prog 87 #[.int .i64 (numI (s.extract 0 4)), .int .i64 (numI (s.extract 5 7)), .int .i64 (numI (s.extract 8 s.size))] w (RetW (.tuple #[.int .i64 v, .int .i64 e]) w)) :
  Calls Tryz.prog 50 #[.string s] w (RetW (.tuple #[.int .i64 v, .int .i64 e]) w) := by
 have HC := Lib.hid hc
 clear hc
 unfold formB at h
 by_cases hz : s.size = 10
 ·rw [dif_pos hz] at h
  obtain ⟨g4, g7⟩ : 4 < s.size ∧ 7 < s.size := by omega
  have e1 : ((s.size : Int) != 10) = false := by rw [hz]; rfl
  simp only [Bool.and_eq_true, decide_eq_true_eq] at h
  obtain ⟨⟨h4, h7⟩, ⟨b1, b2⟩, b3⟩ := h
  have e4 : ((s[4].toNat : Int) != 45) = false := by rw [h4]; rfl
  have e7 : ((s[7].toNat : Int) != 45) = false := by rw [h7]; rfl
  have l1 : 10 ≤ s.size := by omega
  have l2 : s.size ≤ 10 := by omega
  clear hz h4 h7
  go_enter Tryz.func50, Tryz.ntmps50
  go_wp2_with fail
  refine (rnum_any _ (by have := ext_le s 0 4; omega) _).mono ?_
  rintro e w1 ⟨rfl, rfl⟩
  go_wp2_with fail
  refine (rnum_any _ (by have := ext_le s 5 7; omega) _).mono ?_
  rintro e w1 ⟨rfl, rfl⟩
  go_wp2_with fail
  refine (rnum_any _ (by have := ext_le s 8 s.size; omega) _).mono ?_
  rintro e w1 ⟨rfl, rfl⟩
  go_wp2_with fail
  refine HC.out.mono ?_
  rintro e' w1 ⟨rfl, rfl⟩
  go_wp2_with fail
  go_ret2
  exact ⟨rfl, rfl⟩
 ·rw [dif_neg hz] at h
  cases h
def ParseR (s : ByteArray) (v e : Int) : Prop :=
 (formB s = false ∧ v = 0 ∧ e = 52) ∨
 (formB s = true ∧ ((CV v (numI (s.extract 0 4)) (numI (s.extract 5 7)) (numI (s.extract 8 s.size)) ∧ e = 0) ∨ (¬dateR (numI (s.extract 0 4)) (numI (s.extract 5 7)) (numI (s.extract 8 s.size)) ∧ v = 0 ∧ e = 51)))
theorem parse_ex (s : ByteArray) : ∃ v e, ParseR s v e := by
 cases h : formB s
 ·exact ⟨0, 52, .inl ⟨h, rfl, rfl⟩⟩
 ·by_cases hd : dateR (numI (s.extract 0 4)) (numI (s.extract 5 7)) (numI (s.extract 8 s.size))
  ·obtain ⟨n, hn⟩ := hd.cv
   exact ⟨n, 0, .inr ⟨h, .inl ⟨hn, rfl⟩⟩⟩
  ·exact ⟨0, 51, .inr ⟨h, .inr ⟨hd, rfl, rfl⟩⟩⟩
theorem dparse_is {s : ByteArray} {v e : Int} (h : ParseR s v e) (w : World) : Calls Tryz.prog 47 #[.string s] w (RetW (.tuple #[.int .i64 v, .int .i64 e]) w) := by
 rcases h with ⟨h, rfl, rfl⟩ | ⟨h, ⟨hc, rfl⟩ | ⟨hd, rfl, rfl⟩⟩
 ·exact dparse_form s h w
 ·exact dparse_num s h w (dfrom_in hc w)
 ·exact dparse_num s h w (dfrom_out hd w)
theorem rparse_is {s : ByteArray} {v e : Int} (h : ParseR s v e) (w : World) : Calls Tryz.prog 50 #[.string s] w (RetW (.tuple #[.int .i64 v, .int .i64 e]) w) := by
 rcases h with ⟨h, rfl, rfl⟩ | ⟨h, ⟨hc, rfl⟩ | ⟨hd, rfl, rfl⟩⟩
 ·exact rparse_form s h w
 ·exact rparse_num s h w (rfrom_in hc w)
 ·exact rparse_num s h w (rfrom_out hd w)
end
end
section
open Go.RowKit
set_option maxHeartbeats 4000000
def stg (y m d : Int) (k i : Nat) : Int :=
 if i = 4 ∨ i = 7 then 45 else
 if i ≤ 3 then (if 1 ≤ k then 48 + y / 10 ^ (3 - i) % 10 else 48) else
 if i ≤ 6 then (if 2 ≤ k then 48 + m / 10 ^ (6 - i) % 10 else 48) else
 if 3 ≤ k then 48 + d / 10 ^ (9 - i) % 10 else 48
def stj (C : Nat → Int) (v : Int) (L j i : Nat) : Int := if i ≤ L ∧ L < i + j then 48 + v / 10 ^ (L - i) % 10 else C i
def mkA (C : Nat → Int) : Array Value := ((List.range 10).map fun i => Value.int .u8 (C i)).toArray
def fmtS (y m d : Int) : ByteArray := ⟨((List.range 10).map fun i => UInt8.ofNat (stg y m d 3 i).toNat).toArray⟩
theorem mkA_at (C : Nat → Int) {i : Nat} (h : i < 10) : (mkA C)[i]? = some (.int .u8 (C i)) := by
 unfold mkA
 simp [h]
theorem mkA_congr {C C' : Nat → Int} (h : ∀ i, i < 10 → C i = C' i) : mkA C = mkA C' := by
 unfold mkA
 congr 1
 apply List.map_congr_left
 intro i hi
 rw [h i (by simpa using hi)]
theorem mkA_set (C : Nat → Int) (i : Nat) (v : Int) : (mkA C).setIfInBounds i (.int .u8 v) = mkA (fun k => if k = i then v else C k) := by
 unfold mkA
 apply Array.ext
 ·simp
 ·intro k h1 h2
  by_cases e : i = k
  ·subst e; simp
  ·simp [e]
   intro h
   exact absurd h.symm e
theorem stj_48 (C : Nat → Int) (v : Int) (L j : Nat) (x : Int) (h : L - j < 10) (hj : j ≤ L) (hx : C (L - j) = x) : (mkA (stj C v L j))[L - j]? = some (.int .u8 x) := by
 rw [mkA_at _ h]
 unfold stj
 rw [if_neg (by omega), hx]
theorem frozen_10 {w : World} {g i : Nat} {cs : Array Value} {t : TypeId} (h : w.heap[g]? = some (.cells cs t (10, 11))) (hi : i < 10) : w.frozen? ⟨g, i, none⟩ = false := by
 simp [World.frozen?, h]
 omega
theorem heap_al {w : World} {b : Nat} {r : Option Obj} (o : Obj) (h : b < w.heap.size) (hr : w.heap[b]? = r) : (w.alloc o).heap[b]? = r := by
 rw [← hr]
 show (w.heap.push o)[b]? = _
 rw [Array.getElem?_push, if_neg (by omega)]
theorem heap_far {w : World} {p : Addr} {b : Nat} {v : Value} {r : Option Obj} (h : b ≠ p.block) (hr : w.heap[b]? = r) : (w.setCell p v).heap[b]? = r := (Below.heap_setCell w p v b h).trans hr
theorem dig_zero {v : Int} {j e : Nat} (hv : 0 ≤ v) (h0 : v / 10 ^ j = 0) (h : j ≤ e) : v / 10 ^ e = 0 := by
 have h1 : (0 : Int) < 10 ^ j := Int.pow_pos (by decide)
 have h2 : v < 10 ^ j := by
  rcases Int.lt_or_le v (10 ^ j) with hx | hx
  ·exact hx
  ·have := Int.ediv_le_ediv h1 hx
   rw [Int.ediv_self (by omega)] at this
   omega
 have h3 : (10 : Int) ^ j ≤ 10 ^ e := by exact_mod_cast Nat.pow_le_pow_right (by omega) h
 exact Int.ediv_eq_zero_of_lt hv (by omega)
theorem dig_next {v q : Int} {j : Nat} (h : q = v / 10 ^ j) : q / 10 = v / 10 ^ (j + 1) := by
 rw [h, Int.ediv_ediv_of_nonneg (Int.le_of_lt (Int.pow_pos (by decide))), Int.pow_succ]
theorem dig_lt {v q : Int} {j J : Nat} (hv : 0 ≤ v) (hJ : v < 10 ^ J) (h : q = v / 10 ^ j) (hq : 0 < q) : j < J := by
 rcases Nat.lt_or_ge j J with hx | hx
 ·exact hx
 ·have := dig_zero (e := j) hv (Int.ediv_eq_zero_of_lt hv hJ) hx
  omega
theorem stj_step {C : Nat → Int} {v q : Int} {L j : Nat} (h : q = v / 10 ^ j) (hj : j ≤ L) (k : Nat) : (if k = L - j then 48 + q % 10 else stj C v L j k) = stj C v L (j + 1) k := by
 unfold stj
 by_cases e : k = L - j
 ·rw [if_pos e, if_pos (by omega), show L - k = j by omega, h]
 ·rw [if_neg e]
  by_cases c : k ≤ L ∧ L < k + j
  ·rw [if_pos c, if_pos (by omega)]
  ·rw [if_neg c, if_neg (by omega)]
theorem fmt_step {w wr : World} {B z i L : Nat} {C C' : Nat → Int} {v q q' l : Int} {S : Array Value} {T U : TypeId}
  (hb : wr.heap[B]? = some (.cells (mkA C) U (10, 11))) (hp : wr.heap[z]? = some (.cells #[.int .i64 q, .int .i64 l] T (0, 0))) (hs : wr.heap[B + 1]? = some (.cells S T (0, 0)))
  (hz : B + 1 < z) (hC : ∀ k, k < 10 → (if k = i then v else C k) = C' k) (hbel : Below L w wr) (hB : L ≤ B) :
  (((wr.setCell ⟨B, i, none⟩ (.int .u8 v)).drew).setCell ⟨z, 0, none⟩ (.int .i64 q')).heap[B]? = some (.cells (mkA C') U (10, 11)) ∧
  (((wr.setCell ⟨B, i, none⟩ (.int .u8 v)).drew).setCell ⟨z, 0, none⟩ (.int .i64 q')).heap[z]? = some (.cells #[.int .i64 q', .int .i64 l] T (0, 0)) ∧
  (((wr.setCell ⟨B, i, none⟩ (.int .u8 v)).drew).setCell ⟨z, 0, none⟩ (.int .i64 q')).heap[B + 1]? = some (.cells S T (0, 0)) ∧
  Below L w (((wr.setCell ⟨B, i, none⟩ (.int .u8 v)).drew).setCell ⟨z, 0, none⟩ (.int .i64 q')) := by
 refine ⟨heap_far (by show B ≠ z; omega) ?_, ?_, heap_far (by show B + 1 ≠ z; omega) ?_, ?_⟩
 ·have := Joins.block_setCell (i := i) hb (.int .u8 v)
  rw [mkA_set, mkA_congr hC] at this
  exact this
 ·exact Joins.block_setCell (w := (wr.setCell ⟨B, i, none⟩ (.int .u8 v)).drew) (i := 0) (heap_far (w := wr) (p := ⟨B, i, none⟩) (by show z ≠ B; omega) hp) (.int .i64 q')
 ·exact heap_far (w := wr) (p := ⟨B, i, none⟩) (by show B + 1 ≠ B; omega) hs
 ·exact ((hbel.setCell hB _).drew).setCell (show L ≤ (⟨z, 0, none⟩ : Addr).block by show L ≤ z; omega) _
theorem stg_next0 {y m d : Int} {j : Nat} (hv : 0 ≤ y) (h : y / 10 ^ j = 0) (i : Nat) (hi : i < 10) : stj (stg y m d 0) y 3 j i = stg y m d 1 i := by
 unfold stj stg
 by_cases a : i ≤ 3
 ·by_cases c : 3 < i + j
  ·simp [a, c, show ¬(i = 4 ∨ i = 7) by omega]
  ·simp [a, c, show ¬(i = 4 ∨ i = 7) by omega, dig_zero hv h (show j ≤ 3 - i by omega)]
 ·simp [a]
theorem stg_next1 {y m d : Int} {j : Nat} (hj : j ≤ 2) (hv : 0 ≤ m) (h : m / 10 ^ j = 0) (i : Nat) (hi : i < 10) : stj (stg y m d 1) m 6 j i = stg y m d 2 i := by
 unfold stj stg
 by_cases e : i = 4 ∨ i = 7
 ·rw [if_neg (by omega), if_pos e, if_pos e]
 by_cases a : i ≤ 3
 ·simp [a, e]
  omega
 ·by_cases b : i ≤ 6
  ·by_cases c : 6 < i + j
   ·simp [a, b, c, e]
   ·simp [a, b, c, e, dig_zero hv h (show j ≤ 6 - i by omega)]
  ·simp [a, b, e]
theorem stg_next2 {y m d : Int} {j : Nat} (hj : j ≤ 2) (hv : 0 ≤ d) (h : d / 10 ^ j = 0) (i : Nat) (hi : i < 10) : stj (stg y m d 2) d 9 j i = stg y m d 3 i := by
 unfold stj stg
 by_cases e : i = 4 ∨ i = 7
 ·rw [if_neg (by omega), if_pos e, if_pos e]
 by_cases a : i ≤ 3
 ·simp [a, e]
  omega
 ·by_cases b : i ≤ 6
  ·simp [a, b, e]
   omega
  ·by_cases c : 9 < i + j
   ·simp [a, b, c, e]
    omega
   ·simp [a, b, c, e, dig_zero hv h (show j ≤ 9 - i by omega)]
theorem fmtS_bytes {wr : World} {B : Nat} {U : TypeId} {y m d : Int} (hb : wr.heap[B]? = some (.cells (mkA (stg y m d 3)) U (10, 11))) : Lib.Bytes wr B 0 (fmtS y m d) := by
 intro i hi
 have hi10 : i < 10 := hi
 rw [Nat.zero_add, Joins.cell_of_block hb, mkA_at _ hi10]
 have h2 : (fmtS y m d)[i]'hi = UInt8.ofNat (stg y m d 3 i).toNat := by
  have e : (fmtS y m d)[i]'hi = ((List.range 10).map fun i => UInt8.ofNat (stg y m d 3 i).toNat)[i]'(by simpa using hi10) := rfl
  rw [e, List.getElem_map, List.getElem_range]
 have h1 : 0 ≤ stg y m d 3 i ∧ stg y m d 3 i < 256 := by
  unfold stg
  split
  ·omega
  ·split
   ·rw [if_pos (by omega)]; omega
   ·split
    ·rw [if_pos (by omega)]; omega
    ·rw [if_pos (by omega)]; omega
 have key : stg y m d 3 i = (((fmtS y m d)[i]'hi).toNat : Int) := by
  rw [h2, UInt8.toNat_ofNat']
  omega
 exact congrArg (fun x => some (Value.int .u8 x)) key
set_option maxRecDepth 100000 in
theorem dformat_in {n y m d : Int} (h : CV n y m d) (w : World) :
  Calls Tryz.prog 53 #[.int .i64 n] w (RetB (.tuple #[.string (fmtS y m d), .int .i64 0]) w) := by
 have kc := fun (w : World) (C : Array Value) (n c : Nat) => Lib.run_convert_bytes_const (P := Tryz.prog) w 74 5 C n c Tryz.underlying74 Tryz.underlying5
 have y1 := h.y1
 have y2 := h.y2
 have m1 := h.m1
 have m2 := h.m2
 have d1 := h.d1
 have d2 : d ≤ 31 := by have := h.d2; have := len_bd y m; omega
 have H := Lib.hid h
 clear h
 go_enter Tryz.func53, Tryz.ntmps53
 go_wp2_with fail
 refine (dcivil_in H.out _).mono ?_
 rintro e w1 ⟨rfl, rfl⟩
 go_wp2_with fail
 clear kc
 go_loopw [32] (fun i wr => ∃ k : Nat, k ≤ 3 ∧ i = .int .i64 k ∧ wr.heap[w.heap.size]? = some (.cells (mkA (stg y m d k)) 5 (10, 11)) ∧
  wr.heap[w.heap.size + 1]? = some (.cells #[.int .i64 y, .int .i64 3, .int .i64 m, .int .i64 6, .int .i64 d, .int .i64 9] 115 (0, 0)) ∧ Below w.heap.size w wr) (fun i _ => 3 - (intOf i).toNat)
 case atStart =>
  exact ⟨0, by omega, rfl, (heap_al _ (by simp) (heap_alloc_new w _)).trans rfl, (show (World.alloc _ _).heap[w.heap.size + 1]? = _ by rw [show w.heap.size + 1 = (w.alloc (.cells #[.int .u8 48, .int .u8 48, .int .u8 48, .int .u8 48, .int .u8 45, .int .u8 48, .int .u8 48, .int .u8 45, .int .u8 48, .int .u8 48] 5 (10, 11))).heap.size by simp]; exact heap_alloc_new _ _), bal (bal0 _ _) _⟩
 case round =>
  obtain ⟨k, hk, rfl, hb, hs, hbel⟩ := hrel
  obtain ⟨z, hz⟩ : ∃ z, wr.heap.size = z := ⟨_, rfl⟩
  have hzB : w.heap.size + 1 < z := by
   rw [← hz]
   exact (Array.getElem?_eq_some_iff.1 hs).1
  have hk4 : k = 0 ∨ k = 1 ∨ k = 2 ∨ k = 3 := by omega
  rcases hk4 with rfl | rfl | rfl | rfl
  ·have HV : Hid (y < 10 ^ 4) := Lib.hid (by omega)
   have a0 := (Joins.cell_of_block hs 0).trans rfl
   have a1 := (Joins.cell_of_block hs 1).trans rfl
   have st0 : ∀ r : Array Value, wr.heap[w.heap.size]? = some (.cells (mkA (stg y m d 0)) 5 (10, 11)) ∧ (wr.alloc (.cells r 115)).heap[w.heap.size]? = some (.cells (mkA (stj (stg y m d 0) y 3 0)) 5 (10, 11)) ∧
     (wr.alloc (.cells r 115)).heap[z]? = some (.cells r 115 (0, 0)) ∧ (wr.alloc (.cells r 115)).heap[w.heap.size + 1]? = some (.cells #[.int .i64 y, .int .i64 3, .int .i64 m, .int .i64 6, .int .i64 d, .int .i64 9] 115 (0, 0)) := fun r =>
    ⟨hb, (heap_al _ (by omega) hb).trans (by rw [mkA_congr (C' := stj (stg y m d 0) y 3 0)]; intro i _; unfold stj; rw [if_neg (by omega)]), by rw [← hz]; exact heap_alloc_new wr _, heap_al _ (by omega) hs⟩
   have ST := Lib.hid st0
   have HB := Lib.hid hb
   have HS := Lib.hid hs
   have HZ := Lib.hid hz
   clear hb hs st0
   go_wp2_with fail
   obtain ⟨wo, rfl⟩ : ∃ wo : World, wo = wr := ⟨_, rfl⟩
   go_loopw [11] (fun a wj => ∃ (j : Nat) (q : Int), q = y / 10 ^ j ∧ 0 ≤ q ∧ q ≤ 10000 ∧ j ≤ 4 ∧ a = .int .i64 (3 - (j : Int)) ∧ wj.heap[w.heap.size]? = some (.cells (mkA (stj (stg y m d 0) y 3 j)) 5 (10, 11)) ∧
     wj.heap[z]? = some (.cells #[.int .i64 q, .int .i64 3] 115 (0, 0)) ∧
     wj.heap[w.heap.size + 1]? = some (.cells #[.int .i64 y, .int .i64 3, .int .i64 m, .int .i64 6, .int .i64 d, .int .i64 9] 115 (0, 0)) ∧ Below w.heap.size w wj ∧ z < wj.heap.size) (fun a _ => (intOf a + 1).toNat)
   case atStart => exact ⟨0, y, by simp, by omega, by omega, by omega, rfl, (ST.out _).2.1, (ST.out _).2.2.1, (ST.out _).2.2.2, hbel.alloc hbel.size _, by simp; omega⟩
   case round =>
    obtain ⟨j, q, hq, hq0, hq1, hj, rfl, hb, hp, hs, hbel2, hz2⟩ := hrel
    by_cases hlt : 0 < q
    ·have hj4 : j < 4 := dig_lt (by omega) HV.out hq hlt
     have hp0 := (Joins.cell_of_block hp 0).trans rfl
     have hp1 := (Joins.unfrozen_of_block hp 0)
     have hc := (Joins.cell_of_block hb (3 - j)).trans (stj_48 (stg y m d 0) y 3 j 48 (by omega) (by omega) (by have : j = 0 ∨ j = 1 ∨ j = 2 ∨ j = 3 := (by omega); rcases this with rfl | rfl | rfl | rfl <;> rfl))
     have hf : wr.frozen? ⟨w.heap.size, 3 - j, none⟩ = false := frozen_10 hb (by omega)
     have FS := Lib.hid (fmt_step (q' := q / 10) hb hp hs hzB (fun k _ => stj_step hq (by omega) k) hbel2 (Nat.le_refl _))
     have HN := Lib.hid (dig_next hq)
     clear hb hp hs hq
     go_wp2_with fail
     go_region
     go_wp2_with fail
     go_roundw
     case rel => exact ⟨j + 1, q / 10, HN.out, by omega, by omega, by omega, vint (by omega), FS.out.1, FS.out.2.1, FS.out.2.2.1, FS.out.2.2.2, by simpa using hz2⟩
     case measure => simp [intOf]; omega
    ·have hp0 := (Joins.cell_of_block hp 0).trans rfl
     have hq00 : q = 0 := by omega
     have HE := Lib.hid (mkA_congr (fun i hi => stg_next0 (y := y) (m := m) (d := d) (by omega) (hq.symm.trans hq00) i hi))
     have HB2 := Lib.hid hb
     have HS2 := Lib.hid hs
     clear hb hp hs hq hq00
     go_wp2_with fail
     go_roundw
     case rel => exact ⟨1, by omega, rfl, HB2.out.trans (by rw [HE.out]), HS2.out, hbel2⟩
     case measure => simp [intOf]
  ·have HV : Hid (m < 10 ^ 2) := Lib.hid (by omega)
   have a0 := (Joins.cell_of_block hs 2).trans rfl
   have a1 := (Joins.cell_of_block hs 3).trans rfl
   have st0 : ∀ r : Array Value, wr.heap[w.heap.size]? = some (.cells (mkA (stg y m d 1)) 5 (10, 11)) ∧ (wr.alloc (.cells r 115)).heap[w.heap.size]? = some (.cells (mkA (stj (stg y m d 1) m 6 0)) 5 (10, 11)) ∧
     (wr.alloc (.cells r 115)).heap[z]? = some (.cells r 115 (0, 0)) ∧ (wr.alloc (.cells r 115)).heap[w.heap.size + 1]? = some (.cells #[.int .i64 y, .int .i64 3, .int .i64 m, .int .i64 6, .int .i64 d, .int .i64 9] 115 (0, 0)) := fun r =>
    ⟨hb, (heap_al _ (by omega) hb).trans (by rw [mkA_congr (C' := stj (stg y m d 1) m 6 0)]; intro i _; unfold stj; rw [if_neg (by omega)]), by rw [← hz]; exact heap_alloc_new wr _, heap_al _ (by omega) hs⟩
   have ST := Lib.hid st0
   have HB := Lib.hid hb
   have HS := Lib.hid hs
   have HZ := Lib.hid hz
   clear hb hs st0
   go_wp2_with fail
   obtain ⟨wo, rfl⟩ : ∃ wo : World, wo = wr := ⟨_, rfl⟩
   go_loopw [11] (fun a wj => ∃ (j : Nat) (q : Int), q = m / 10 ^ j ∧ 0 ≤ q ∧ q ≤ 10000 ∧ j ≤ 2 ∧ a = .int .i64 (6 - (j : Int)) ∧ wj.heap[w.heap.size]? = some (.cells (mkA (stj (stg y m d 1) m 6 j)) 5 (10, 11)) ∧
     wj.heap[z]? = some (.cells #[.int .i64 q, .int .i64 6] 115 (0, 0)) ∧
     wj.heap[w.heap.size + 1]? = some (.cells #[.int .i64 y, .int .i64 3, .int .i64 m, .int .i64 6, .int .i64 d, .int .i64 9] 115 (0, 0)) ∧ Below w.heap.size w wj ∧ z < wj.heap.size) (fun a _ => (intOf a + 1).toNat)
   case atStart => exact ⟨0, m, by simp, by omega, by omega, by omega, rfl, (ST.out _).2.1, (ST.out _).2.2.1, (ST.out _).2.2.2, hbel.alloc hbel.size _, by simp; omega⟩
   case round =>
    obtain ⟨j, q, hq, hq0, hq1, hj, rfl, hb, hp, hs, hbel2, hz2⟩ := hrel
    by_cases hlt : 0 < q
    ·have hj4 : j < 2 := dig_lt (by omega) HV.out hq hlt
     have hp0 := (Joins.cell_of_block hp 0).trans rfl
     have hp1 := (Joins.unfrozen_of_block hp 0)
     have hc := (Joins.cell_of_block hb (6 - j)).trans (stj_48 (stg y m d 1) m 6 j 48 (by omega) (by omega) (by have : j = 0 ∨ j = 1 := (by omega); rcases this with rfl | rfl <;> rfl))
     have hf : wr.frozen? ⟨w.heap.size, 6 - j, none⟩ = false := frozen_10 hb (by omega)
     have FS := Lib.hid (fmt_step (q' := q / 10) hb hp hs hzB (fun k _ => stj_step hq (by omega) k) hbel2 (Nat.le_refl _))
     have HN := Lib.hid (dig_next hq)
     clear hb hp hs hq
     go_wp2_with fail
     go_region
     go_wp2_with fail
     go_roundw
     case rel => exact ⟨j + 1, q / 10, HN.out, by omega, by omega, by omega, vint (by omega), FS.out.1, FS.out.2.1, FS.out.2.2.1, FS.out.2.2.2, by simpa using hz2⟩
     case measure => simp [intOf]; omega
    ·have hp0 := (Joins.cell_of_block hp 0).trans rfl
     have hq00 : q = 0 := by omega
     have HE := Lib.hid (mkA_congr (fun i hi => stg_next1 (by omega) (y := y) (m := m) (d := d) (by omega) (hq.symm.trans hq00) i hi))
     have HB2 := Lib.hid hb
     have HS2 := Lib.hid hs
     clear hb hp hs hq hq00
     go_wp2_with fail
     go_roundw
     case rel => exact ⟨2, by omega, rfl, HB2.out.trans (by rw [HE.out]), HS2.out, hbel2⟩
     case measure => simp [intOf]
  ·have HV : Hid (d < 10 ^ 2) := Lib.hid (by omega)
   have a0 := (Joins.cell_of_block hs 4).trans rfl
   have a1 := (Joins.cell_of_block hs 5).trans rfl
   have st0 : ∀ r : Array Value, wr.heap[w.heap.size]? = some (.cells (mkA (stg y m d 2)) 5 (10, 11)) ∧ (wr.alloc (.cells r 115)).heap[w.heap.size]? = some (.cells (mkA (stj (stg y m d 2) d 9 0)) 5 (10, 11)) ∧
     (wr.alloc (.cells r 115)).heap[z]? = some (.cells r 115 (0, 0)) ∧ (wr.alloc (.cells r 115)).heap[w.heap.size + 1]? = some (.cells #[.int .i64 y, .int .i64 3, .int .i64 m, .int .i64 6, .int .i64 d, .int .i64 9] 115 (0, 0)) := fun r =>
    ⟨hb, (heap_al _ (by omega) hb).trans (by rw [mkA_congr (C' := stj (stg y m d 2) d 9 0)]; intro i _; unfold stj; rw [if_neg (by omega)]), by rw [← hz]; exact heap_alloc_new wr _, heap_al _ (by omega) hs⟩
   have ST := Lib.hid st0
   have HB := Lib.hid hb
   have HS := Lib.hid hs
   have HZ := Lib.hid hz
   clear hb hs st0
   go_wp2_with fail
   obtain ⟨wo, rfl⟩ : ∃ wo : World, wo = wr := ⟨_, rfl⟩
   go_loopw [11] (fun a wj => ∃ (j : Nat) (q : Int), q = d / 10 ^ j ∧ 0 ≤ q ∧ q ≤ 10000 ∧ j ≤ 2 ∧ a = .int .i64 (9 - (j : Int)) ∧ wj.heap[w.heap.size]? = some (.cells (mkA (stj (stg y m d 2) d 9 j)) 5 (10, 11)) ∧
     wj.heap[z]? = some (.cells #[.int .i64 q, .int .i64 9] 115 (0, 0)) ∧
     wj.heap[w.heap.size + 1]? = some (.cells #[.int .i64 y, .int .i64 3, .int .i64 m, .int .i64 6, .int .i64 d, .int .i64 9] 115 (0, 0)) ∧ Below w.heap.size w wj ∧ z < wj.heap.size) (fun a _ => (intOf a + 1).toNat)
   case atStart => exact ⟨0, d, by simp, by omega, by omega, by omega, rfl, (ST.out _).2.1, (ST.out _).2.2.1, (ST.out _).2.2.2, hbel.alloc hbel.size _, by simp; omega⟩
   case round =>
    obtain ⟨j, q, hq, hq0, hq1, hj, rfl, hb, hp, hs, hbel2, hz2⟩ := hrel
    by_cases hlt : 0 < q
    ·have hj4 : j < 2 := dig_lt (by omega) HV.out hq hlt
     have hp0 := (Joins.cell_of_block hp 0).trans rfl
     have hp1 := (Joins.unfrozen_of_block hp 0)
     have hc := (Joins.cell_of_block hb (9 - j)).trans (stj_48 (stg y m d 2) d 9 j 48 (by omega) (by omega) (by have : j = 0 ∨ j = 1 := (by omega); rcases this with rfl | rfl <;> rfl))
     have hf : wr.frozen? ⟨w.heap.size, 9 - j, none⟩ = false := frozen_10 hb (by omega)
     have FS := Lib.hid (fmt_step (q' := q / 10) hb hp hs hzB (fun k _ => stj_step hq (by omega) k) hbel2 (Nat.le_refl _))
     have HN := Lib.hid (dig_next hq)
     clear hb hp hs hq
     go_wp2_with fail
     go_region
     go_wp2_with fail
     go_roundw
     case rel => exact ⟨j + 1, q / 10, HN.out, by omega, by omega, by omega, vint (by omega), FS.out.1, FS.out.2.1, FS.out.2.2.1, FS.out.2.2.2, by simpa using hz2⟩
     case measure => simp [intOf]; omega
    ·have hp0 := (Joins.cell_of_block hp 0).trans rfl
     have hq00 : q = 0 := by omega
     have HE := Lib.hid (mkA_congr (fun i hi => stg_next2 (by omega) (y := y) (m := m) (d := d) (by omega) (hq.symm.trans hq00) i hi))
     have HB2 := Lib.hid hb
     have HS2 := Lib.hid hs
     clear hb hp hs hq hq00
     go_wp2_with fail
     go_roundw
     case rel => exact ⟨3, by omega, rfl, HB2.out.trans (by rw [HE.out]), HS2.out, hbel2⟩
     case measure => simp [intOf]
  ·have kb := Lib.run_convert_whole (P := Tryz.prog) wr 74 5 9 Tryz.underlying74 Tryz.underlying5 Tryz.underlying9 w.heap.size 0 (fmtS y m d) (fmtS_bytes hb) 10
   rw [show (fmtS y m d).size = 10 from rfl] at kb
   clear hb hs hz
   go_wp2_with fail
   go_ret2
   exact ⟨rfl, hbel⟩
theorem dformat_out {n : Int} (h : ¬(0 ≤ n ∧ n ≤ 73048)) (w : World) : Calls Tryz.prog 53 #[.int .i64 n] w (RetB (.tuple #[.string ⟨#[]⟩, .int .i64 50]) w) := by
 go_enter Tryz.func53, Tryz.ntmps53
 go_wp2_with fail
 refine (dcivil_out h _).mono ?_
 rintro e w1 ⟨rfl, rfl⟩
 go_wp2_with fail
 go_ret2
 exact ⟨rfl, Below.refl _ _⟩
theorem rformat_out {n : Int} (h : ¬(0 ≤ n ∧ n ≤ 73048)) (w : World) : Calls Tryz.prog 28 #[.int .i64 n] w (RetB (.tuple #[.string ⟨#[]⟩, .int .i64 50]) w) := by
 go_enter Tryz.func28, Tryz.ntmps28
 go_wp2_with fail
 refine (rcivil_out h _).mono ?_
 rintro e w1 ⟨rfl, rfl⟩
 go_wp2_with fail
 go_ret2
 exact ⟨rfl, Below.refl _ _⟩
def twoS (n : Int) : ByteArray := ⟨#[UInt8.ofNat (48 + n / 10).toNat, UInt8.ofNat (48 + n % 10).toNat]⟩
theorem ten_at (k : Nat) (h : k < 10) : (⟨#[48, 49, 50, 51, 52, 53, 54, 55, 56, 57]⟩ : ByteArray).extract k (k + 1) = ⟨#[UInt8.ofNat (48 + k)]⟩ := by
 have : k = 0 ∨ k = 1 ∨ k = 2 ∨ k = 3 ∨ k = 4 ∨ k = 5 ∨ k = 6 ∨ k = 7 ∨ k = 8 ∨ k = 9 := by omega
 rcases this with rfl | rfl | rfl | rfl | rfl | rfl | rfl | rfl | rfl | rfl <;> rfl
theorem two_eq (n : Int) (h1 : 0 ≤ n) (h2 : n ≤ 99) : (⟨#[48, 49, 50, 51, 52, 53, 54, 55, 56, 57]⟩ : ByteArray).extract (n / 10).toNat (n / 10 + 1).toNat ++ (⟨#[48, 49, 50, 51, 52, 53, 54, 55, 56, 57]⟩ : ByteArray).extract (n % 10).toNat (n % 10 + 1).toNat = twoS n := by
 rw [show (n / 10 + 1).toNat = (n / 10).toNat + 1 by omega, show (n % 10 + 1).toNat = (n % 10).toNat + 1 by omega, ten_at _ (by omega), ten_at _ (by omega)]
 unfold twoS
 rw [show (48 + n / 10).toNat = 48 + (n / 10).toNat by omega, show (48 + n % 10).toNat = 48 + (n % 10).toNat by omega]
 rfl
theorem two_any (n : Int) (h1 : 0 ≤ n) (h2 : n ≤ 99) (w : World) : Calls Tryz.prog 58 #[.int .i64 n] w (RetB (.string (twoS n)) w) := by
 have HE := Lib.hid (two_eq n h1 h2)
 go_enter Tryz.func58, Tryz.ntmps58
 go_wp2_with fail
 go_quiet (fail)
 go_wp2_with fail
 go_ret
 refine ⟨?_, below_drewN (Below.refl _ _) _⟩
 rw [← HE.out]
 rfl
theorem fmt_eq (y m d : Int) (hy1 : 2000 ≤ y) (hy2 : y ≤ 2199) (hm1 : 1 ≤ m) (hm2 : m ≤ 12) (hd1 : 1 ≤ d) (hd2 : d ≤ 31) :
  twoS (y / 100) ++ twoS (y % 100) ++ ⟨#[45]⟩ ++ twoS m ++ ⟨#[45]⟩ ++ twoS d = fmtS y m d := by
 have e : fmtS y m d = ⟨#[UInt8.ofNat (48 + y / 1000 % 10).toNat, UInt8.ofNat (48 + y / 100 % 10).toNat, UInt8.ofNat (48 + y / 10 % 10).toNat, UInt8.ofNat (48 + y / 1 % 10).toNat, 45,
   UInt8.ofNat (48 + m / 10 % 10).toNat, UInt8.ofNat (48 + m / 1 % 10).toNat, 45, UInt8.ofNat (48 + d / 10 % 10).toNat, UInt8.ofNat (48 + d / 1 % 10).toNat]⟩ := rfl
 rw [e, show y / 1000 % 10 = y / 100 / 10 by omega, show y / 10 % 10 = y % 100 / 10 by omega, show y / 1 % 10 = y % 100 % 10 by omega, show m / 10 % 10 = m / 10 by omega, show m / 1 % 10 = m % 10 by omega,
  show d / 10 % 10 = d / 10 by omega, show d / 1 % 10 = d % 10 by omega]
 rfl
theorem rformat_in {n y m d : Int} (h : CV n y m d) (w : World) :
  Calls Tryz.prog 28 #[.int .i64 n] w (RetB (.tuple #[.string (fmtS y m d), .int .i64 0]) w) := by
 have y1 := h.y1
 have y2 := h.y2
 have m1 := h.m1
 have m2 := h.m2
 have d1 := h.d1
 have d2 : d ≤ 31 := by have := h.d2; have := len_bd y m; omega
 have HE := Lib.hid (fmt_eq y m d y1 y2 m1 m2 d1 d2)
 have H := Lib.hid h
 clear h
 go_enter Tryz.func28, Tryz.ntmps28
 go_wp2_with fail
 refine (rcivil_in H.out _).mono ?_
 rintro e w1 ⟨rfl, rfl⟩
 go_wp2_with fail
 refine (two_any _ (by omega) (by omega) _).mono ?_
 rintro e w2 ⟨rfl, hb2⟩
 go_wp2_with fail
 refine (two_any _ (by omega) (by omega) _).mono ?_
 rintro e w3 ⟨rfl, hb3⟩
 go_wp2_with fail
 refine (two_any _ (by omega) (by omega) _).mono ?_
 rintro e w4 ⟨rfl, hb4⟩
 go_wp2_with fail
 refine (two_any _ (by omega) (by omega) _).mono ?_
 rintro e w5 ⟨rfl, hb5⟩
 go_wp2_with fail
 go_ret2
 refine ⟨?_, bnext (bnext (bnext hb2 hb3) hb4) hb5⟩
 rw [← HE.out]
 rfl
def FmtR (n : Int) (s : ByteArray) (e : Int) : Prop := (∃ y m d, CV n y m d ∧ s = fmtS y m d ∧ e = 0) ∨ (¬(0 ≤ n ∧ n ≤ 73048) ∧ s = ⟨#[]⟩ ∧ e = 50)
theorem day_or (n : Int) : (∃ y m d, CV n y m d) ∨ ¬(0 ≤ n ∧ n ≤ 73048) := by
 by_cases h : 0 ≤ n ∧ n ≤ 73048
 ·exact .inl (cv_any n h.1 h.2)
 ·exact .inr h
theorem fmt_ex (n : Int) : ∃ s e, FmtR n s e := by
 rcases day_or n with ⟨y, m, d, h⟩ | h
 ·exact ⟨_, _, .inl ⟨_, _, _, h, rfl, rfl⟩⟩
 ·exact ⟨_, _, .inr ⟨h, rfl, rfl⟩⟩
theorem dfmt_is {n e : Int} {s : ByteArray} (h : FmtR n s e) (w : World) : Calls Tryz.prog 53 #[.int .i64 n] w (RetB (.tuple #[.string s, .int .i64 e]) w) := by
 rcases h with ⟨y, m, d, h, rfl, rfl⟩ | ⟨h, rfl, rfl⟩
 ·exact dformat_in h w
 ·exact dformat_out h w
theorem rfmt_is {n e : Int} {s : ByteArray} (h : FmtR n s e) (w : World) : Calls Tryz.prog 28 #[.int .i64 n] w (RetB (.tuple #[.string s, .int .i64 e]) w) := by
 rcases h with ⟨y, m, d, h, rfl, rfl⟩ | ⟨h, rfl, rfl⟩
 ·exact rformat_in h w
 ·exact rformat_out h w
end
end
section
open Go.RowKit
set_option maxHeartbeats 4000000
structure QT.wf (q : QT) : Prop where
 a : q.a < bp 32
 b : q.b < bp 32
 s1 : q.src.length ≤ 9223372036854775807
 s2 : q.ins.length ≤ 9223372036854775807
 s3 : q.cur.length ≤ 9223372036854775807
theorem bs_max {l : List UInt8} (h : l.length ≤ 9223372036854775807) : (bs l).size ≤ maxLen := by rw [bs_size]; exact h
section
variable {q : QT}
theorem eq_noP (hq : q.wf) (w : World) : (Op.equalIn 10000 31 (.agg (ratC q.x q.a q.y q.b)) (.agg (RC 0 0))).run Tryz.prog w = .ok q.noP w := eq_rat q.x q.a q.y q.b false 0 false 0 hq.a hq.b (bp_pos 32) (bp_pos 32) w
set_option maxRecDepth 100000 in
theorem right_any (hq : q.wf) {v : Bool} (hv : q.right = v) (w : World) : Calls Tryz.prog 37 #[.agg (qC q)] w (RetB (.bool v) w) := by
 have F := Fr.start w
 obtain ⟨c1, h1⟩ : ∃ c, nameB q.src = c := ⟨_, rfl⟩
 obtain ⟨c2, h2⟩ : ∃ c, paperB q.ins = c := ⟨_, rfl⟩
 obtain ⟨c3, h3⟩ : ∃ c, codeB q.cur = c := ⟨_, rfl⟩
 obtain ⟨c4, h4⟩ : ∃ c, q.noP = c := ⟨_, rfl⟩
 obtain ⟨c5, h5⟩ : ∃ c, q.price = c := ⟨_, rfl⟩
 have g1 := fun w => tname_any (bs q.src) (bs_max hq.s1) (b := c1) (by rw [bs_list]; exact h1) w
 have g2 := fun w => inst_any (bs q.ins) (bs_max hq.s2) (b := c2) (by rw [bs_list]; exact h2) w
 have g3 := fun w => curr_any (bs q.cur) (bs_max hq.s3) (b := c3) (by rw [bs_list]; exact h3) w
 have qz := fun w => eq_noP hq w
 have g5 := fun w => price_any hq.a hq.b h5 w
 rw [h4] at qz
 unfold QT.right at hv
 rw [h1, h2, h3, h4, h5] at hv
 clear h1 h2 h3 h4 h5 hq
 cases c1
 ·obtain rfl : false = v := hv
  go_enter Tryz.func37, Tryz.ntmps37
  go_wp2_with (first | go_skip | refine aYQ ?_ | (refine aTQ ?_; clear F; intro W F) | refine aNQ ?_)
  (clear F; intro b1 W F; try simp only [Act.put, z6, z1, z2])
  go_wp2_with (first | go_skip | ((go_at_call 65); (with_reducible refine fr_call F (g1 _) ?_); (clear F; intro W F); (try dsimp only)) | refine aYQ ?_ | (refine aTQ ?_; clear F; intro W F) | refine aNQ ?_)
  go_ret
  exact ⟨rfl, F.below⟩
 cases c2
 ·obtain rfl : false = v := hv
  go_enter Tryz.func37, Tryz.ntmps37
  go_wp2_with (first | go_skip | refine aYQ ?_ | (refine aTQ ?_; clear F; intro W F) | refine aNQ ?_)
  (clear F; intro b1 W F; try simp only [Act.put, z6, z1, z2])
  go_wp2_with (first | go_skip | ((go_at_call 65); (with_reducible refine fr_call F (g1 _) ?_); (clear F; intro W F); (try dsimp only)) | ((go_at_call 66); (with_reducible refine fr_call F (g2 _) ?_); (clear F; intro W F); (try dsimp only)) | refine aYQ ?_ | (refine aTQ ?_; clear F; intro W F) | refine aNQ ?_)
  go_ret
  exact ⟨rfl, F.below⟩
 cases c3
 ·obtain rfl : false = v := hv
  go_enter Tryz.func37, Tryz.ntmps37
  go_wp2_with (first | go_skip | refine aYQ ?_ | (refine aTQ ?_; clear F; intro W F) | refine aNQ ?_)
  (clear F; intro b1 W F; try simp only [Act.put, z6, z1, z2])
  go_wp2_with (first | go_skip | ((go_at_call 65); (with_reducible refine fr_call F (g1 _) ?_); (clear F; intro W F); (try dsimp only)) | ((go_at_call 66); (with_reducible refine fr_call F (g2 _) ?_); (clear F; intro W F); (try dsimp only)) | ((go_at_call 67); (with_reducible refine fr_call F (g3 _) ?_); (clear F; intro W F); (try dsimp only)) | refine aYQ ?_ | (refine aTQ ?_; clear F; intro W F) | refine aNQ ?_)
  go_ret
  exact ⟨rfl, F.below⟩
 simp only [Bool.true_and] at hv
 by_cases d1 : q.day < 0
 ·rw [decide_eq_false (by omega), Bool.false_and] at hv
  subst hv
  have t1 : decide (q.day < 0) = true := decide_eq_true d1
  go_enter Tryz.func37, Tryz.ntmps37
  go_wp2_with (first | go_skip | refine aYQ ?_ | (refine aTQ ?_; clear F; intro W F) | refine aNQ ?_)
  (clear F; intro b1 W F; try simp only [Act.put, z6, z1, z2])
  go_wp2_with (first | go_skip | ((go_at_call 65); (with_reducible refine fr_call F (g1 _) ?_); (clear F; intro W F); (try dsimp only)) | ((go_at_call 66); (with_reducible refine fr_call F (g2 _) ?_); (clear F; intro W F); (try dsimp only)) | ((go_at_call 67); (with_reducible refine fr_call F (g3 _) ?_); (clear F; intro W F); (try dsimp only)) | refine aYQ ?_ | (refine aTQ ?_; clear F; intro W F) | refine aNQ ?_)
  go_ret
  exact ⟨rfl, F.below⟩
 by_cases d2 : 73048 < q.day
 ·rw [decide_eq_false (by omega), Bool.false_and] at hv
  subst hv
  have t1 : decide (q.day < 0) = false := decide_eq_false d1
  have t2 : decide (73048 < q.day) = true := decide_eq_true d2
  go_enter Tryz.func37, Tryz.ntmps37
  go_wp2_with (first | go_skip | refine aYQ ?_ | (refine aTQ ?_; clear F; intro W F) | refine aNQ ?_)
  (clear F; intro b1 W F; try simp only [Act.put, z6, z1, z2])
  go_wp2_with (first | go_skip | ((go_at_call 65); (with_reducible refine fr_call F (g1 _) ?_); (clear F; intro W F); (try dsimp only)) | ((go_at_call 66); (with_reducible refine fr_call F (g2 _) ?_); (clear F; intro W F); (try dsimp only)) | ((go_at_call 67); (with_reducible refine fr_call F (g3 _) ?_); (clear F; intro W F); (try dsimp only)) | refine aYQ ?_ | (refine aTQ ?_; clear F; intro W F) | refine aNQ ?_)
  go_ret
  exact ⟨rfl, F.below⟩
 have t1 : decide (q.day < 0) = false := decide_eq_false d1
 have t2 : decide (73048 < q.day) = false := decide_eq_false d2
 rw [decide_eq_true (by omega), Bool.true_and] at hv
 have HV := Lib.hid hv
 clear hv
 go_enter Tryz.func37, Tryz.ntmps37
 go_wp2_with (first | go_skip | refine aYQ ?_ | (refine aTQ ?_; clear F; intro W F) | refine aNQ ?_)
 (clear F; intro b1 W F; try simp only [Act.put, z6, z1, z2])
 go_wp2_with (first | go_skip | ((go_at_call 65); (with_reducible refine fr_call F (g1 _) ?_); (clear F; intro W F); (try dsimp only)) | ((go_at_call 66); (with_reducible refine fr_call F (g2 _) ?_); (clear F; intro W F); (try dsimp only)) | ((go_at_call 67); (with_reducible refine fr_call F (g3 _) ?_); (clear F; intro W F); (try dsimp only)) | ((go_at_call 68); (with_reducible refine fr_call F (g5 _) ?_); (clear F; intro W F); (try dsimp only)) | refine aYQ ?_ | (refine aTQ ?_; clear F; intro W F) | refine aNQ ?_)
 all_goals
  go_ret
  rename_i h
  exact ⟨ret_bool (by rw [← HV.out, h]; rfl), F.below⟩
theorem noZ (h : okR q.x q.a q.y q.b) : (!(((q.x == false) && decide (q.a = 0)) && ((q.y == false) && decide (q.b = 1)))) = !(decide (sZ q.x q.a = 0)) := by
 obtain ⟨-, -, hy, -, hx, hg⟩ := okR_bound h
 have e : sZ q.x q.a = 0 ↔ q.a = 0 := by unfold sZ; split <;> omega
 congr 1
 rw [decide_eq_decide.2 e, hy]
 by_cases h0 : q.a = 0
 ·rw [h0, Nat.gcd_zero_left] at hg
  have hx0 : q.x = false := by
   cases hc : q.x
   ·rfl
   ·exact absurd h0 (hx hc)
  simp [hx0, hg, h0]
 ·rw [decide_eq_false h0, Bool.and_false, Bool.false_and]
set_option maxRecDepth 100000 in
theorem qvalid_any (hq : q.wf) {v : Bool} (hv : q.ok = v) (w : World) : Calls Tryz.prog 40 #[.agg (qC q)] w (RetB (.bool v) w) := by
 have F := Fr.start w
 obtain ⟨c1, h1⟩ : ∃ c, nameB q.src = c := ⟨_, rfl⟩
 obtain ⟨c2, h2⟩ : ∃ c, paperB q.ins = c := ⟨_, rfl⟩
 obtain ⟨c3, h3⟩ : ∃ c, codeB q.cur = c := ⟨_, rfl⟩
 obtain ⟨c6, h6⟩ : ∃ c, decide (0 ≤ q.day ∧ q.day ≤ 73048) = c := ⟨_, rfl⟩
 obtain ⟨c7, h7⟩ : ∃ c, knB q.known = c := ⟨_, rfl⟩
 obtain ⟨c4, h4⟩ : ∃ c, q.noP = c := ⟨_, rfl⟩
 have g1 := fun w => rname_any (bs q.src) (bs_max hq.s1) (b := c1) (by rw [bs_list]; exact h1) w
 have g2 := fun w => rpaper_any (bs q.ins) (bs_max hq.s2) (b := c2) (by rw [bs_list]; exact h2) w
 have g3 := fun w => rcode_any (bs q.cur) (bs_max hq.s3) (b := c3) (by rw [bs_list]; exact h3) w
 have g6 : ∀ w, Calls Tryz.prog 72 #[.int .i64 q.day] w (RetB (.bool (!c6)) w) := fun w => (dout_is h6 w).mono (by rintro e w' ⟨rfl, rfl⟩; exact ⟨rfl, Below.refl _ _⟩)
 have g7 := fun w => qknownOK_any h7 w
 have qz := fun w => eq_noP hq w
 rw [h4] at qz
 unfold QT.ok QT.right at hv
 rw [h1, h2, h3, h4, h6, h7] at hv
 clear h1 h2 h3 h4 h6 h7
 cases c1
 ·obtain rfl : false = v := hv
  go_enter Tryz.func40, Tryz.ntmps40
  go_wp2_with (first | go_skip | refine aYQ ?_ | (refine aTQ ?_; clear F; intro W F) | refine aNQ ?_)
  (clear F; intro b1 W F; try simp only [Act.put, z6, z1, z2])
  go_wp2_with (first | go_skip | ((go_at_call 69); (with_reducible refine fr_call F (g1 _) ?_); (clear F; intro W F); (try dsimp only)) | refine aYQ ?_ | (refine aTQ ?_; clear F; intro W F) | refine aNQ ?_)
  go_ret
  exact ⟨rfl, F.below⟩
 cases c2
 ·obtain rfl : false = v := hv
  go_enter Tryz.func40, Tryz.ntmps40
  go_wp2_with (first | go_skip | refine aYQ ?_ | (refine aTQ ?_; clear F; intro W F) | refine aNQ ?_)
  (clear F; intro b1 W F; try simp only [Act.put, z6, z1, z2])
  go_wp2_with (first | go_skip | ((go_at_call 69); (with_reducible refine fr_call F (g1 _) ?_); (clear F; intro W F); (try dsimp only)) | ((go_at_call 70); (with_reducible refine fr_call F (g2 _) ?_); (clear F; intro W F); (try dsimp only)) | refine aYQ ?_ | (refine aTQ ?_; clear F; intro W F) | refine aNQ ?_)
  go_ret
  exact ⟨rfl, F.below⟩
 cases c3
 ·obtain rfl : false = v := hv
  go_enter Tryz.func40, Tryz.ntmps40
  go_wp2_with (first | go_skip | refine aYQ ?_ | (refine aTQ ?_; clear F; intro W F) | refine aNQ ?_)
  (clear F; intro b1 W F; try simp only [Act.put, z6, z1, z2])
  go_wp2_with (first | go_skip | ((go_at_call 69); (with_reducible refine fr_call F (g1 _) ?_); (clear F; intro W F); (try dsimp only)) | ((go_at_call 70); (with_reducible refine fr_call F (g2 _) ?_); (clear F; intro W F); (try dsimp only)) | ((go_at_call 71); (with_reducible refine fr_call F (g3 _) ?_); (clear F; intro W F); (try dsimp only)) | refine aYQ ?_ | (refine aTQ ?_; clear F; intro W F) | refine aNQ ?_)
  go_ret
  exact ⟨rfl, F.below⟩
 cases c6
 ·obtain rfl : false = v := hv
  go_enter Tryz.func40, Tryz.ntmps40
  go_wp2_with (first | go_skip | refine aYQ ?_ | (refine aTQ ?_; clear F; intro W F) | refine aNQ ?_)
  (clear F; intro b1 W F; try simp only [Act.put, z6, z1, z2])
  go_wp2_with (first | go_skip | ((go_at_call 69); (with_reducible refine fr_call F (g1 _) ?_); (clear F; intro W F); (try dsimp only)) | ((go_at_call 70); (with_reducible refine fr_call F (g2 _) ?_); (clear F; intro W F); (try dsimp only)) | ((go_at_call 71); (with_reducible refine fr_call F (g3 _) ?_); (clear F; intro W F); (try dsimp only)) | ((go_at_call 72); (with_reducible refine fr_call F (g6 _) ?_); (clear F; intro W F); (try dsimp only)) | refine aYQ ?_ | (refine aTQ ?_; clear F; intro W F) | refine aNQ ?_)
  go_ret
  exact ⟨rfl, F.below⟩
 cases c7
 ·obtain rfl : false = v := by rw [← hv, Bool.and_false]
  clear hv
  go_enter Tryz.func40, Tryz.ntmps40
  go_wp2_with (first | go_skip | refine aYQ ?_ | (refine aTQ ?_; clear F; intro W F) | refine aNQ ?_)
  (clear F; intro b1 W F; try simp only [Act.put, z6, z1, z2])
  go_wp2_with (first | go_skip | ((go_at_call 69); (with_reducible refine fr_call F (g1 _) ?_); (clear F; intro W F); (try dsimp only)) | ((go_at_call 70); (with_reducible refine fr_call F (g2 _) ?_); (clear F; intro W F); (try dsimp only)) | ((go_at_call 71); (with_reducible refine fr_call F (g3 _) ?_); (clear F; intro W F); (try dsimp only)) | ((go_at_call 72); (with_reducible refine fr_call F (g6 _) ?_); (clear F; intro W F); (try dsimp only)) | ((go_at_call 52); (with_reducible refine fr_call F (g7 _) ?_); (clear F; intro W F); (try dsimp only)) | refine aYQ ?_ | (refine aTQ ?_; clear F; intro W F) | refine aNQ ?_)
  go_ret
  exact ⟨rfl, F.below⟩
 simp only [Bool.true_and, Bool.and_true] at hv
 obtain ⟨c8, h8⟩ : ∃ c, price0 (okR q.x q.a q.y q.b) (sZ q.x q.a) (sZ q.y q.b) = c := ⟨_, rfl⟩
 have g8 := fun w => rpriceOK_any hq.a hq.b h8 w
 have g9 := fun w => rzeroR w
 unfold QT.price at hv
 rw [← price_doc, h8] at hv
 have qe : ∀ w, (Op.equalIn 10000 31 (.agg (ratC q.x q.a q.y q.b)) (.agg (RC 0 1))).run Tryz.prog w = .ok _ w := fun w => eq_rat q.x q.a q.y q.b false 0 false 1 hq.a hq.b (bp_pos 32) (b15 one15) w
 obtain ⟨z, hz⟩ : ∃ z, (((q.x == false) && decide (q.a = 0)) && ((q.y == false) && decide (q.b = 1))) = z := ⟨_, rfl⟩
 rw [hz] at qe
 have hv2 : (if q.void = true then c4 else (c8 && !z)) = v := by
  rw [← hv]
  cases c8
  ·rfl
  ·have hok : okR q.x q.a q.y q.b := by
    by_cases h : okR q.x q.a q.y q.b
    ·exact h
    ·exfalso
     unfold price0 at h8
     rw [txt_no h, decide_eq_false (by decide), Bool.false_and] at h8
     cases h8
   rw [← noZ hok, hz]
 have HV := Lib.hid hv2
 clear h8 hz hv hv2 hq
 go_enter Tryz.func40, Tryz.ntmps40
 go_wp2_with (first | go_skip | refine aYQ ?_ | (refine aTQ ?_; clear F; intro W F) | refine aNQ ?_)
 (clear F; intro b1 W F; try simp only [Act.put, z6, z1, z2])
 go_wp2_with (first | go_skip | ((go_at_call 69); (with_reducible refine fr_call F (g1 _) ?_); (clear F; intro W F); (try dsimp only)) | ((go_at_call 70); (with_reducible refine fr_call F (g2 _) ?_); (clear F; intro W F); (try dsimp only)) | ((go_at_call 71); (with_reducible refine fr_call F (g3 _) ?_); (clear F; intro W F); (try dsimp only)) | ((go_at_call 72); (with_reducible refine fr_call F (g6 _) ?_); (clear F; intro W F); (try dsimp only)) | ((go_at_call 52); (with_reducible refine fr_call F (g7 _) ?_); (clear F; intro W F); (try dsimp only)) | refine aYQ ?_ | (refine aTQ ?_; clear F; intro W F) | refine aNQ ?_)
 any_goals
  go_ret
  rename_i h
  exact ⟨ret_bool (by rw [← HV.out, h]; rfl), F.below⟩
 have h : q.void = false := by assumption
 have hv3 := HV.out
 rw [h, if_neg (by decide)] at hv3
 clear HV h
 subst hv3
 cases c8
 ·skip
  try simp only [Act.put, z6, z1, z2]
  refine wp_region_bm 10 (by kernel_rfl) rfl ?_
  replace F := F.drew
  revert F
  generalize World.drew _ = W
  intro F
  refine dg_one 0 1 (by kernel_rfl) rfl (by kernel_rfl) rfl (fun K hK => ?_)
  (simp only [z3, z4, z5])
  ((refine ⟨?_⟩); go_simp)
  (refine hK _ _ ?_; clear hK K)
  refine dg_one 1 3 (by kernel_rfl) rfl (by kernel_rfl) rfl (fun K hK => ?_)
  (simp only [z3, z4, z5])
  (first | ((with_reducible apply gL F); exact rfl; (exact tL); (exact tR3); go_simp) | ((with_reducible apply gLm F); exact rfl; (exact tL); (first | (with_reducible exact q_rat _) | (exact tM3)); (exact tR3); go_simp) | ((refine ⟨?_⟩); go_simp))
  (refine hK _ _ ?_; clear hK K)
  refine dg_one 2 7 (by kernel_rfl) rfl (by kernel_rfl) rfl (fun K hK => ?_)
  (simp only [z3, z4, z5])
  ((refine ⟨?_⟩); go_simp; (first | ((with_reducible refine fr_call F (g8 _) ?_); (try clear F); (intro W F); (try dsimp only)) | skip))
  (refine hK _ _ ?_; clear hK K)
  refine dg_one 3 15 (by kernel_rfl) rfl (by kernel_rfl) rfl (fun K hK => ?_)
  (simp only [z3, z4, z5])
  ((refine ⟨?_⟩); go_simp)
  (refine hK _ _ ?_; clear hK K)
  apply dg_meet (f' := 3) (m' := 127)
  ·intro M
   refine dg_ready [4, 6] (by kernel_rfl) rfl ?_
   refine dg_skip 4 31 rfl (by kernel_rfl) rfl ?_ ?_
   ·(simp only [Act.put, z3, z4, z5, z6, z1, z2])
    refine dg_ready [5, 6] (by kernel_rfl) rfl ?_
    refine dg_skip 5 63 rfl (by kernel_rfl) rfl ?_ ?_
    ·(simp only [Act.put, z3, z4, z5, z6, z1, z2])
     refine dg_oneS 6 127 (by kernel_rfl) rfl (by kernel_rfl) rfl ?_
     (simp only [Act.put, z3, z4, z5, z6, z1, z2])
     exact M _ F
    refine dg_skip 6 95 rfl (by kernel_rfl) rfl ?_ ?_
    ·(simp only [Act.put, z3, z4, z5, z6, z1, z2])
     refine dg_oneS 5 127 (by kernel_rfl) rfl (by kernel_rfl) rfl ?_
     (simp only [Act.put, z3, z4, z5, z6, z1, z2])
     exact M _ F
    exact dg_nil
   refine dg_skip 6 79 rfl (by kernel_rfl) rfl ?_ ?_
   ·(simp only [Act.put, z3, z4, z5, z6, z1, z2])
    refine dg_oneS 4 95 (by kernel_rfl) rfl (by kernel_rfl) rfl ?_
    (simp only [Act.put, z3, z4, z5, z6, z1, z2])
    refine dg_oneS 5 127 (by kernel_rfl) rfl (by kernel_rfl) rfl ?_
    (simp only [Act.put, z3, z4, z5, z6, z1, z2])
    exact M _ F
   exact dg_nil
  clear F
  intro W F
  refine dg_oneS 7 255 (by kernel_rfl) rfl (by kernel_rfl) rfl ?_
  (simp only [Act.put, z3, z4, z5, z6, z1, z2])
  refine dg_one 8 511 (by kernel_rfl) rfl (by kernel_rfl) rfl (fun K hK => ?_)
  (simp only [z3, z4, z5])
  ((refine ⟨?_⟩); go_simp)
  (refine hK _ _ ?_; clear hK K)
  refine dg_one 9 1023 (by kernel_rfl) rfl (by kernel_rfl) rfl (fun K hK => ?_)
  (simp only [z3, z4, z5])
  ((refine ⟨?_⟩); go_simp)
  (refine hK _ _ ?_; clear hK K)
  refine dg_end (by kernel_rfl) ?_ _
  go_wp2_with (first | go_skip | refine aYQ ?_ | (refine aTQ ?_; clear F; intro W F) | refine aNQ ?_)
  go_ret
  exact ⟨rfl, F.below⟩
 ·skip
  try simp only [Act.put, z6, z1, z2]
  refine wp_region_bm 10 (by kernel_rfl) rfl ?_
  replace F := F.drew
  revert F
  generalize World.drew _ = W
  intro F
  refine dg_one 0 1 (by kernel_rfl) rfl (by kernel_rfl) rfl (fun K hK => ?_)
  (simp only [z3, z4, z5])
  ((refine ⟨?_⟩); go_simp)
  (refine hK _ _ ?_; clear hK K)
  refine dg_one 1 3 (by kernel_rfl) rfl (by kernel_rfl) rfl (fun K hK => ?_)
  (simp only [z3, z4, z5])
  (first | ((with_reducible apply gL F); exact rfl; (exact tL); (exact tR3); go_simp) | ((with_reducible apply gLm F); exact rfl; (exact tL); (first | (with_reducible exact q_rat _) | (exact tM3)); (exact tR3); go_simp) | ((refine ⟨?_⟩); go_simp))
  (refine hK _ _ ?_; clear hK K)
  refine dg_one 2 7 (by kernel_rfl) rfl (by kernel_rfl) rfl (fun K hK => ?_)
  (simp only [z3, z4, z5])
  ((refine ⟨?_⟩); go_simp; (first | ((with_reducible refine fr_call F (g8 _) ?_); (try clear F); (intro W F); (try dsimp only)) | ((with_reducible refine fr_call F (g9 _) ?_); (try clear F); (intro W F); (try dsimp only)) | skip))
  (refine hK _ _ ?_; clear hK K)
  refine dg_one 3 15 (by kernel_rfl) rfl (by kernel_rfl) rfl (fun K hK => ?_)
  (simp only [z3, z4, z5])
  ((refine ⟨?_⟩); go_simp)
  (refine hK _ _ ?_; clear hK K)
  (refine dg_take 4 40 31 (v := ?_) rfl (by kernel_rfl) (by kernel_rfl) (by kernel_rfl) (by kernel_rfl) (by kernel_rfl) (fun _ _ _ h => h) (Or.inl ⟨by kernel_rfl, ?_⟩) ?_; rotate_left; (focus (intro w; go_simp; try (with_reducible rfl))); (simp only [z1, z2]))
  apply dg_meet (f' := 3) (m' := 127)
  ·intro M
   refine dg_ready [5, 6] (by kernel_rfl) rfl ?_
   refine dg_want 5 63 rfl (by kernel_rfl) rfl (fun K hK => ?_) ?_
   ·skip
    (simp only [z3, z4, z5])
    (first | ((with_reducible apply gL F); exact rfl; (exact tL); (exact tR3); go_simp) | ((with_reducible apply gLm F); exact rfl; (exact tL); (first | (with_reducible exact q_rat _) | (exact tM3)); (exact tR3); go_simp) | ((refine ⟨?_⟩); go_simp))
    (refine hK _ _ ?_; clear hK K)
    refine dg_one 6 127 (by kernel_rfl) rfl (by kernel_rfl) rfl (fun K hK => ?_)
    (simp only [z3, z4, z5])
    ((refine ⟨?_⟩); go_simp; (first | ((with_reducible refine fr_call F (g8 _) ?_); (try clear F); (intro W F); (try dsimp only)) | ((with_reducible refine fr_call F (g9 _) ?_); (try clear F); (intro W F); (try dsimp only)) | skip))
    (refine hK _ _ ?_; clear hK K)
    exact M _ F
   refine dg_want 6 95 rfl (by kernel_rfl) rfl (fun K hK => ?_) ?_
   ·skip
    (simp only [z3, z4, z5])
    ((refine ⟨?_⟩); go_simp; (first | ((with_reducible refine fr_call F (g8 _) ?_); (try clear F); (intro W F); (try dsimp only)) | ((with_reducible refine fr_call F (g9 _) ?_); (try clear F); (intro W F); (try dsimp only)) | skip))
    (refine hK _ _ ?_; clear hK K)
    refine dg_one 5 127 (by kernel_rfl) rfl (by kernel_rfl) rfl (fun K hK => ?_)
    (simp only [z3, z4, z5])
    (first | ((with_reducible apply gL F); exact rfl; (exact tL); (exact tR3); go_simp) | ((with_reducible apply gLm F); exact rfl; (exact tL); (first | (with_reducible exact q_rat _) | (exact tM3)); (exact tR3); go_simp) | ((refine ⟨?_⟩); go_simp))
    (refine hK _ _ ?_; clear hK K)
    exact M _ F
   exact dg_nil
  clear F
  intro W F
  refine dg_one 7 255 (by kernel_rfl) rfl (by kernel_rfl) rfl (fun K hK => ?_)
  (simp only [z3, z4, z5])
  ((refine ⟨?_⟩); go_simp)
  (refine hK _ _ ?_; clear hK K)
  refine dg_one 8 511 (by kernel_rfl) rfl (by kernel_rfl) rfl (fun K hK => ?_)
  (simp only [z3, z4, z5])
  ((refine ⟨?_⟩); go_simp)
  (refine hK _ _ ?_; clear hK K)
  refine dg_one 9 1023 (by kernel_rfl) rfl (by kernel_rfl) rfl (fun K hK => ?_)
  (simp only [z3, z4, z5])
  ((refine ⟨?_⟩); go_simp)
  (refine hK _ _ ?_; clear hK K)
  refine dg_end (by kernel_rfl) ?_ _
  go_wp2_with (first | go_skip | refine aYQ ?_ | (refine aTQ ?_; clear F; intro W F) | refine aNQ ?_)
  go_ret
  exact ⟨rfl, F.below⟩
end
end
end Go.Proofs.YteaahhokaffmdaaGreatDoor
