/- What the laws lean on. -/
import Derived.Test.YtpaodheilchfnaaGreatDoorPz20
import Derived.Test.YtpaodheilchfnaaGreatDoorPz39
namespace Go.Proofs.YtpaodheilchfnaaGreatDoor
set_option linter.unusedVariables false
set_option linter.unusedSimpArgs false
section
open Go.RowKit
set_option maxHeartbeats 4000000
section
variable {n d m e : Int} {r : Int × Int × Int}
set_option maxRecDepth 100000 in
theorem rnegR (h : okZ n d) (w : World) : Calls Tryz.prog 15 #[.agg (RC n d)] w (RetB (.tuple #[.agg (RC (-n) d), .int .i64 0]) w) := by
  have F := Fr.start w
  have g1 := fun w => rvalidZ h w
  have g2 := fun w => rnegativeR (d := d) (okZ_b h).1 w
  clear h
  go_enter Tryz.func15, Tryz.ntmps15
  go_wp2_with (first | go_skip | ((with_reducible apply fL F); exact rfl; exact rfl; (exact tL); (exact tR3)) | ((with_reducible apply fA_rat F); exact rfl) | ((with_reducible apply fX_rat F); exact rfl; exact rfl) | ((with_reducible apply fS F); exact rfl; exact rfl; exact rfl; (exact tL); (exact tR3); (exact tS2); clear F; intro W F; simp only [z7, z8] at F) | ((with_reducible apply fB_rat0); exact rfl))
  (clear F; intro b1 W F; try simp only [Act.put, z6, z1, z2])
  go_wp2_with (first | go_skip | ((with_reducible apply fL F); exact rfl; exact rfl; (exact tL); (exact tR3)) | ((with_reducible apply fA_rat F); exact rfl) | ((with_reducible apply fX_rat F); exact rfl; exact rfl) | ((with_reducible apply fS F); exact rfl; exact rfl; exact rfl; (exact tL); (exact tR3); (exact tS2); clear F; intro W F; simp only [z7, z8] at F) | ((with_reducible apply fB_rat0); exact rfl))
  (clear F; intro b2 W F; try simp only [Act.put, z6, z1, z2])
  go_wp2_with (first | go_skip | ((go_at_call 51); (with_reducible refine fr_call F (g1 _) ?_); (clear F; intro W F); (try dsimp only)) | ((go_at_call 52); (with_reducible refine fr_call F (g2 _) ?_); (clear F; intro W F); (try dsimp only)) | ((with_reducible apply fL F); exact rfl; exact rfl; (exact tL); (exact tR3)) | ((with_reducible apply fA_rat F); exact rfl) | ((with_reducible apply fX_rat F); exact rfl; exact rfl) | ((with_reducible apply fS F); exact rfl; exact rfl; exact rfl; (exact tL); (exact tR3); (exact tS2); clear F; intro W F; simp only [z7, z8] at F) | ((with_reducible apply fB_rat0); exact rfl))
  exact bodyPost_ret (res_cs rfl rfl rfl (Fr.get F tL) (rowRC _ _)) rfl ⟨rfl, F.below⟩
end
end
section
open Go.RowKit
theorem upB_mono {m q c c' : Int} {g : Bool} (h : c ≤ c') (hu : upB m q c g = true) : upB m q c' g = true := by
  unfold upB at hu ⊢
  by_cases h1 : m = 1
  · rw [if_pos h1] at hu ⊢; exact hu
  rw [if_neg h1] at hu ⊢
  by_cases h2 : m = 2
  · rw [if_pos h2] at hu ⊢; exact hu
  rw [if_neg h2] at hu ⊢
  by_cases h3 : m = 3
  · rw [if_pos h3] at hu; exact absurd hu (by decide)
  rw [if_neg h3] at hu ⊢
  by_cases h4 : m = 4
  · rw [if_pos h4]
  rw [if_neg h4] at hu ⊢
  by_cases h5 : m = 5
  · rw [if_pos h5] at hu ⊢
    split at hu
    · split
      · exact hu
      · simp; omega
    · rw [if_neg (by simp at hu; omega)]
      simp at hu ⊢; omega
  · rw [if_neg h5] at hu ⊢
    split at hu
    · split
      · exact hu
      · simp; omega
    · rw [if_neg (by simp at hu; omega)]
      simp at hu ⊢; omega
theorem floor_neg {x d : Int} (hd : 0 < d) (h : x % d ≠ 0) : (x < 0 ↔ x / d < 0) := by
  constructor
  · intro h2; exact Int.ediv_neg_of_neg_of_pos h2 hd
  · intro h2
    rcases Int.lt_or_le x 0 with h3 | h3
    · exact h3
    · have := Int.ediv_nonneg h3 (Int.le_of_lt hd); omega
theorem rnd_mono {m x d y e : Int} (hd : 0 < d) (he : 0 < e) (h : x * e ≤ y * d) : rnd m x d ≤ rnd m y e := by
  have hx := Int.emod_add_mul_ediv x d
  have hy := Int.emod_add_mul_ediv y e
  have hx0 := Int.emod_nonneg x (b := d) (by omega)
  have hy0 := Int.emod_nonneg y (b := e) (by omega)
  have hy1 := Int.emod_lt_of_pos y he
  have hx1 := Int.emod_lt_of_pos x hd
  have hq : x / d ≤ y / e := by
    rcases Int.lt_or_le (y / e) (x / d) with h1 | h1
    · exfalso
      have h2 : d * (y / e + 1) ≤ x := by
        have : d * (y / e + 1) ≤ d * (x / d) := Int.mul_le_mul_of_nonneg_left (by omega) (Int.le_of_lt hd)
        omega
      have h3 : y < e * (y / e + 1) := by rw [Int.mul_add]; omega
      have h4 : d * (y / e + 1) * e ≤ x * e := Int.mul_le_mul_of_nonneg_right h2 (Int.le_of_lt he)
      have h5 : y * d < e * (y / e + 1) * d := Int.mul_lt_mul_of_pos_right h3 hd
      have h6 : d * (y / e + 1) * e = e * (y / e + 1) * d := by rw [Int.mul_assoc, Int.mul_comm d, Int.mul_comm e]
      omega
    · exact h1
  by_cases hlt : x / d < y / e
  · rcases rnd_near (m := m) (x := x) hd with h1 | ⟨-, h1⟩ <;> rcases rnd_near (m := m) (x := y) he with h2 | ⟨-, h2⟩ <;> omega
  have hqe : x / d = y / e := by omega
  have hr : (x % d) * e ≤ (y % e) * d := by
    have e1 : x * e = (x % d) * e + d * (x / d) * e := by rw [← Int.add_mul, hx]
    have e2 : y * d = (y % e) * d + e * (y / e) * d := by rw [← Int.add_mul, hy]
    have e3 : d * (x / d) * e = e * (y / e) * d := by rw [hqe, Int.mul_assoc, Int.mul_comm d, Int.mul_comm e]
    omega
  by_cases hz : x % d = 0
  · have h1 : rnd m x d = x / d := by unfold rnd; rw [if_pos hz]
    rcases rnd_near (m := m) (x := y) he with h2 | ⟨-, h2⟩ <;> omega
  · have hyz : y % e ≠ 0 := by
      intro h0
      rw [h0, Int.zero_mul] at hr
      have := Int.mul_pos (show 0 < x % d by omega) he
      omega
    unfold rnd
    rw [if_neg hz, if_neg hyz]
    have hg : decide (x < 0) = decide (y < 0) := by
      rw [decide_eq_decide, floor_neg hd hz, floor_neg he hyz, hqe]
    rw [hg, hqe]
    have hc : cmpZ (2 * (x % d)) d ≤ cmpZ (2 * (y % e)) e := by
      have k1 : 2 * (x % d) * e ≤ 2 * (y % e) * d := by rw [Int.mul_assoc, Int.mul_assoc]; omega
      rcases cmpZ_cases (2 * (x % d)) d with ⟨a, b⟩ | ⟨a, b⟩ | ⟨a, b⟩ <;> rcases cmpZ_cases (2 * (y % e)) e with ⟨a', b'⟩ | ⟨a', b'⟩ | ⟨a', b'⟩ <;> rw [b, b'] <;> try decide
      · exfalso
        have c1 := Int.mul_lt_mul_of_pos_right a he
        have c2 := Int.mul_lt_mul_of_pos_right a' hd
        rw [Int.mul_comm e d] at c2
        omega
      · exfalso
        have c1 := Int.mul_lt_mul_of_pos_right a he
        rw [a', Int.mul_comm e d] at k1
        omega
      · exfalso
        have c2 := Int.mul_lt_mul_of_pos_right a' hd
        rw [a, Int.mul_comm d e] at k1
        omega
    by_cases hu : upB m (y / e) (cmpZ (2 * (x % d)) d) (decide (y < 0)) = true
    · rw [if_pos hu, if_pos (upB_mono hc hu)]
      omega
    · rw [if_neg hu]
      split <;> omega
def mirM (m : Int) : Int := if m = 4 then 3 else if m = 3 then 4 else m
theorem neg_div {x d : Int} (hd : 0 < d) (h : x % d ≠ 0) : (-x) / d = -(x / d) - 1 ∧ (-x) % d = d - x % d := by
  have h1 := Int.emod_add_mul_ediv x d
  have h2 := Int.emod_nonneg x (b := d) (by omega)
  have h3 := Int.emod_lt_of_pos x hd
  have e : -x = (d - x % d) + d * (-(x / d) - 1) := by rw [Int.mul_sub, Int.mul_neg]; omega
  constructor
  · rw [e, Int.add_mul_ediv_left _ _ (by omega), Int.ediv_eq_zero_of_lt (by omega) (by omega)]; omega
  · rw [e, Int.add_mul_emod_self_left, Int.emod_eq_of_lt (by omega) (by omega)]
theorem upB_mir {m q c : Int} {g : Bool} (h1 : 1 ≤ m) (h6 : m ≤ 6) : upB (mirM m) (-q - 1) (-c) (!g) = !upB m q c g := by
  have hm : m = 1 ∨ m = 2 ∨ m = 3 ∨ m = 4 ∨ m = 5 ∨ m = 6 := by omega
  rcases hm with rfl | rfl | rfl | rfl | rfl | rfl
  · rfl
  · rfl
  · rfl
  · rfl
  · have e : mirM 5 = 5 := rfl
    rw [e]
    show (if -c = 0 then !!g else decide (0 < -c)) = !(if c = 0 then !g else decide (0 < c))
    by_cases hc : c = 0
    · subst hc; rfl
    · rw [if_neg (by omega), if_neg hc]
      by_cases h0 : 0 < c
      · rw [decide_eq_true h0, decide_eq_false (by omega)]; rfl
      · rw [decide_eq_false h0, decide_eq_true (by omega)]; rfl
  · have e : mirM 6 = 6 := rfl
    rw [e]
    show (if -c = 0 then decide ((-q - 1) % 2 = 1) else decide (0 < -c)) = !(if c = 0 then decide (q % 2 = 1) else decide (0 < c))
    by_cases hc : c = 0
    · subst hc
      rw [if_pos (by decide), if_pos rfl]
      by_cases h0 : q % 2 = 1
      · rw [decide_eq_true h0, decide_eq_false (by omega)]; rfl
      · rw [decide_eq_false h0, decide_eq_true (by omega)]; rfl
    · rw [if_neg (by omega), if_neg hc]
      by_cases h0 : 0 < c
      · rw [decide_eq_true h0, decide_eq_false (by omega)]; rfl
      · rw [decide_eq_false h0, decide_eq_true (by omega)]; rfl
theorem rnd_mir {m x d : Int} (hd : 0 < d) (h1 : 1 ≤ m) (h6 : m ≤ 6) : rnd (mirM m) (-x) d = -rnd m x d := by
  unfold rnd
  by_cases hz : x % d = 0
  · have hz' : (-x) % d = 0 := by
      have := Int.dvd_of_emod_eq_zero hz
      exact Int.emod_eq_zero_of_dvd (Int.dvd_neg.2 this)
    rw [if_pos hz, if_pos hz', Int.neg_ediv_of_dvd (Int.dvd_of_emod_eq_zero hz)]
  · obtain ⟨e1, e2⟩ := neg_div hd hz
    have h2 := Int.emod_nonneg x (b := d) (by omega)
    have h3 := Int.emod_lt_of_pos x hd
    have hx : x ≠ 0 := by intro h; subst h; simp at hz
    rw [if_neg hz, if_neg (show ¬ (-x) % d = 0 by omega), e1, e2]
    have hc : cmpZ (2 * (d - x % d)) d = -cmpZ (2 * (x % d)) d := by
      rcases cmpZ_cases (2 * (x % d)) d with ⟨a, b⟩ | ⟨a, b⟩ | ⟨a, b⟩ <;> rcases cmpZ_cases (2 * (d - x % d)) d with ⟨a', b'⟩ | ⟨a', b'⟩ | ⟨a', b'⟩ <;> rw [b, b'] <;> first | rfl | omega
    have hg : decide (-x < 0) = !decide (x < 0) := by
      by_cases h0 : x < 0
      · rw [decide_eq_true h0, decide_eq_false (by omega)]; rfl
      · rw [decide_eq_false h0, decide_eq_true (by omega)]; rfl
    rw [hc, hg, upB_mir h1 h6]
    cases upB m (x / d) (cmpZ (2 * (x % d)) d) (decide (x < 0))
    · simp
    · simp; omega
end
section
open Go.RowKit
set_option maxHeartbeats 4000000
theorem mono_den {e : Int} (he : e ∈ [1, 2, 3, 8, 20, 200]) : 1 ≤ e ∧ e ≤ 200 := by
  simp only [List.mem_cons, List.not_mem_nil, or_false] at he
  omega
theorem roundInt_ok {n d : Int} {p m : Nat} (h : okZ n d) (hn : n.natAbs ≤ 400) (hp : p ≤ 2) (h1 : 1 ≤ m) (h6 : m ≤ 6) : (rnd m (n * ((10 ^ p : Nat) : Int)) d).natAbs ≤ 100000 ∧ ∀ w, Calls Tryz.prog 17 #[.agg (RC n d), .int .i64 p, .int .i64 m] w (RetB (.tuple #[.int .i64 (rnd m (n * ((10 ^ p : Nat) : Int)) d), .int .i64 0]) w) := by
  obtain ⟨-, hd, -⟩ := okZ_iff.1 h
  have hdist := rnd_dist (m := m) (x := n * ((10 ^ p : Nat) : Int)) hd
  have hP : (10 ^ p : Nat) ≤ 100 := Nat.le_trans (Nat.pow_le_pow_right (by decide) hp) (by decide)
  have hx : (n * ((10 ^ p : Nat) : Int)).natAbs ≤ 400 * 100 := by rw [Int.natAbs_mul]; exact Nat.mul_le_mul hn (by simpa using hP)
  have hr := rndR_rnd (v := okZ n d) (n := n) (d := d) (p := (p : Int)) (m := (m : Int)) h (by omega) (by omega) (by omega) (by omega)
  rw [Int.toNat_natCast] at hr
  generalize n * ((10 ^ p : Nat) : Int) = x at *
  have hb : (rnd m x d).natAbs ≤ 100000 := by
    have k3 : 1 ≤ d.natAbs := by omega
    have k2 : (rnd m x d).natAbs * d.natAbs ≤ x.natAbs + d.natAbs := by rw [← Int.natAbs_mul]; omega
    have k4 : (rnd m x d).natAbs * d.natAbs ≤ (x.natAbs + 1) * d.natAbs := by
      rw [Nat.add_mul, Nat.one_mul]
      have : x.natAbs ≤ x.natAbs * d.natAbs := Nat.le_mul_of_pos_right _ k3
      omega
    have := Nat.le_of_mul_le_mul_right k4 (by omega)
    omega
  refine ⟨hb, fun w => ?_⟩
  refine roundInt_any (x := decide (n < 0)) (y := decide (d < 0)) (okZ_b h).1 (okZ_b h).2 (r := (rnd m x d, 0)) ?_ w
  rw [sZ_z, sZ_z]
  unfold rndI
  dsimp only
  have hr' : rndR (okR (decide (n < 0)) n.natAbs (decide (d < 0)) d.natAbs) n d p m = (rnd m x d, 0) := hr
  rw [hr', if_neg (by simp), if_pos (by omega)]
theorem mono_step {x y x' y' : Int} {p m : Nat} (h : okZ x y) (h' : okZ x' y') (hx : x.natAbs ≤ 400) (hx' : x'.natAbs ≤ 400) (hp : p ≤ 2) (h1 : 1 ≤ m) (h6 : m ≤ 6) (hle : x * y' ≤ x' * y) :
    ∃ z1 z2 : Int, (∀ w, Calls Tryz.prog 17 #[.agg (RC x y), .int .i64 p, .int .i64 m] w (RetB (.tuple #[.int .i64 z1, .int .i64 0]) w)) ∧ (∀ w, Calls Tryz.prog 17 #[.agg (RC x' y'), .int .i64 p, .int .i64 m] w (RetB (.tuple #[.int .i64 z2, .int .i64 0]) w)) ∧
      (∀ w, Calls Tryz.prog 17 #[.agg (RC (-x) y), .int .i64 p, .int .i64 (mirM m)] w (RetB (.tuple #[.int .i64 (-z1), .int .i64 0]) w)) ∧ z1 ≤ z2 ∧ z1.natAbs ≤ 100000 ∧ z2.natAbs ≤ 100000 := by
  obtain ⟨b1, g1⟩ := roundInt_ok h hx hp h1 h6
  obtain ⟨b2, g2⟩ := roundInt_ok h' hx' hp h1 h6
  obtain ⟨-, hd, -⟩ := okZ_iff.1 h
  obtain ⟨-, hd', -⟩ := okZ_iff.1 h'
  have hm : ∃ k : Nat, mirM (m : Int) = k ∧ 1 ≤ k ∧ k ≤ 6 := by
    unfold mirM
    by_cases h4 : (m : Int) = 4
    · rw [if_pos h4]; exact ⟨3, rfl, by decide, by decide⟩
    · rw [if_neg h4]
      by_cases h3 : (m : Int) = 3
      · rw [if_pos h3]; exact ⟨4, rfl, by decide, by decide⟩
      · rw [if_neg h3]; exact ⟨m, rfl, h1, h6⟩
  obtain ⟨k, hk, k1, k6⟩ := hm
  obtain ⟨b3, g3⟩ := roundInt_ok (okZ_neg h) (by rw [Int.natAbs_neg]; exact hx) hp k1 k6
  have hmir := rnd_mir (m := m) (x := x * ((10 ^ p : Nat) : Int)) hd (by omega) (by omega)
  rw [hk, ← Int.neg_mul] at hmir
  rw [hmir] at g3
  rw [hk]
  refine ⟨_, _, g1, g2, g3, ?_, b1, b2⟩
  refine rnd_mono hd hd' ?_
  have hP : (0 : Int) < ((10 ^ p : Nat) : Int) := by exact_mod_cast Nat.pow_pos (by decide)
  have := Int.mul_le_mul_of_nonneg_right hle (Int.le_of_lt hP)
  calc x * ((10 ^ p : Nat) : Int) * y' = x * y' * ((10 ^ p : Nat) : Int) := by ac_rfl
    _ ≤ x' * y * ((10 ^ p : Nat) : Int) := this
    _ = x' * ((10 ^ p : Nat) : Int) * y := by ac_rfl
set_option maxRecDepth 100000 in
theorem decimalMonotone_any (A0 : Option Addr) (L0 : List Int) (cap : Nat) {w : World} (hL : IntsAt w A0 L0) (ht : Tab w) : Calls Tryz.prog 3 #[.slice A0 L0.length cap] w (RetB (.bool true) w) := by
  have T0 := tape_start (cap := cap) hL
  have gk := fun u W N L (T : Tp (w.alloc (.cells #[.slice A0 L0.length cap, .int .i64 0] 25)) u w.heap.size w.heap.size N) (F : Fr u W L) => known_any (ht.next (tape_out T F))
  have HO := Lib.hid (fun u W N L (T : Tp (w.alloc (.cells #[.slice A0 L0.length cap, .int .i64 0] 25)) u w.heap.size w.heap.size N) (F : Fr u W L) => (show RetB (.bool true) w (.returned (.bool true)) W from ⟨rfl, tape_out T F⟩))
  clear hL ht
  go_enter Tryz.func3, Tryz.ntmps3
  go_upto_region 2 with fail
  have F := Fr.start (w.alloc (.cells #[.slice A0 L0.length cap, .int .i64 0] 25))
  have T := Tp.start T0
  clear T0
  generalize w.alloc (.cells #[.slice A0 L0.length cap, .int .i64 0] 25) = w1 at *
  generalize w.heap.size = b at *
  go_wp2_with (first | go_skip | ((go_at_call 12); (with_reducible refine fr_tap F T (trange _ _ (by decide) (by decide) (by decide) (T.at F)) ?_); (try clear F T); (rintro _ u W ⟨k, rfl, hk⟩ T F); (try dsimp only)) | ((with_reducible apply fL F); exact rfl; exact rfl; (exact tL); (exact tR3)) | ((with_reducible apply fSli F slInt); exact rfl; exact rfl; exact rfl; decide; decide; (go_simp; exact rfl); exact rfl) | ((with_reducible apply fA_rat F); exact rfl) | ((with_reducible apply fS F); exact rfl; exact rfl; exact rfl; (exact tL); (exact tR3); (exact tS2); clear F; intro W F; simp only [z7, z8] at F))
  (clear F; intro b23 W F; try simp only [Act.put, z6, z1, z2])
  go_wp2_with (first | go_skip | ((go_at_call 13); (with_reducible refine fr_tap F T (tpickF [1, 2, 3, 8, 20, 200] F T tL (by with_unfolding_all rfl) (by with_unfolding_all rfl) (by simp) (by simp)) ?_); (try clear F T); (rintro _ u W ⟨e, rfl, he⟩ T F); (have he2 := mono_den he); (clear he); (try dsimp only)) | ((go_at_call 11); (with_reducible refine fr_callP F (makeOf_ok (by omega) (by omega) (by omega) _) ?_); (try clear F); (rintro _ W ⟨x, y, rfl, ho⟩ F); (try dsimp only)) | ((with_reducible apply fL F); exact rfl; exact rfl; (exact tL); (exact tR3)) | ((with_reducible apply fSli F slInt); exact rfl; exact rfl; exact rfl; decide; decide; (go_simp; exact rfl); exact rfl) | ((with_reducible apply fA_rat F); exact rfl) | ((with_reducible apply fS F); exact rfl; exact rfl; exact rfl; (exact tL); (exact tR3); (exact tS2); clear F; intro W F; simp only [z7, z8] at F))
  (clear F; intro b4 W F; try simp only [Act.put, z6, z1, z2])
  have hx : okZ x y ∧ x.natAbs ≤ 400 := ⟨ho.1, by have := ho.2.2.1; omega⟩
  have HX := Lib.hid hx
  clear ho hx hk he2
  go_wp2_with (first | go_skip | ((go_at_call 12); (with_reducible refine fr_tap F T (trange _ _ (by decide) (by decide) (by decide) (T.at F)) ?_); (try clear F T); (rintro _ u W ⟨k2, rfl, hk2⟩ T F); (try dsimp only)) | ((with_reducible apply fL F); exact rfl; exact rfl; (exact tL); (exact tR3)) | ((with_reducible apply fSli F slInt); exact rfl; exact rfl; exact rfl; decide; decide; (go_simp; exact rfl); exact rfl) | ((with_reducible apply fA_rat F); exact rfl) | ((with_reducible apply fS F); exact rfl; exact rfl; exact rfl; (exact tL); (exact tR3); (exact tS2); clear F; intro W F; simp only [z7, z8] at F))
  (clear F; intro b29 W F; try simp only [Act.put, z6, z1, z2])
  go_wp2_with (first | go_skip | ((go_at_call 13); (with_reducible refine fr_tap F T (tpickF [1, 2, 3, 8, 20, 200] F T tL (by with_unfolding_all rfl) (by with_unfolding_all rfl) (by simp) (by simp)) ?_); (try clear F T); (rintro _ u W ⟨e2, rfl, he⟩ T F); (have he3 := mono_den he); (clear he); (try dsimp only)) | ((go_at_call 11); (with_reducible refine fr_callP F (makeOf_ok (by omega) (by omega) (by omega) _) ?_); (try clear F); (rintro _ W ⟨x', y', rfl, ho⟩ F); (try dsimp only)) | ((with_reducible apply fL F); exact rfl; exact rfl; (exact tL); (exact tR3)) | ((with_reducible apply fSli F slInt); exact rfl; exact rfl; exact rfl; decide; decide; (go_simp; exact rfl); exact rfl) | ((with_reducible apply fA_rat F); exact rfl) | ((with_reducible apply fS F); exact rfl; exact rfl; exact rfl; (exact tL); (exact tR3); (exact tS2); clear F; intro W F; simp only [z7, z8] at F))
  (clear F; intro b5 W F; try simp only [Act.put, z6, z1, z2])
  have hx : okZ x' y' ∧ x'.natAbs ≤ 400 := ⟨ho.1, by have := ho.2.2.1; omega⟩
  have HX' := Lib.hid hx
  clear ho hx hk2 he3
  replace F := F.sub (L' := [(b5, RC 0 0, 31), (b4, RC x y, 31)]) (by repeat (first | exact List.Sublist.slnil | apply List.Sublist.cons_cons | apply List.Sublist.cons))
  obtain ⟨c, hc⟩ : ∃ c, cmpZ (x * y') (x' * y) = c := ⟨_, rfl⟩
  have g1 := fun w => rcompareR HX.out.1 HX'.out.1 hc w
  go_upto_if 35 with (first | go_skip | ((go_at_call 14); (with_reducible refine fr_call F (g1 _) ?_); (clear F; intro W F); (try dsimp only)) | ((with_reducible apply fL F); exact rfl; exact rfl; (exact tL); (exact tR3)) | ((with_reducible apply fSli F slInt); exact rfl; exact rfl; exact rfl; decide; decide; (go_simp; exact rfl); exact rfl) | ((with_reducible apply fA_rat F); exact rfl) | ((with_reducible apply fS F); exact rfl; exact rfl; exact rfl; (exact tL); (exact tR3); (exact tS2); clear F; intro W F; simp only [z7, z8] at F))
  clear g1
  go_cut [] from 32 to 37 (fun wr => ∃ x y x' y' : Int, (okZ x y ∧ okZ x' y' ∧ x.natAbs ≤ 400 ∧ x'.natAbs ≤ 400 ∧ x * y' ≤ x' * y) ∧ Fr u wr [(b5, RC x' y', 31), (b4, RC x y, 31)])
  case first =>
    rcases cmpZ_cases (x * y') (x' * y) with ⟨h1, h2⟩ | ⟨h1, h2⟩ | ⟨h1, h2⟩
    all_goals
      rw [h2] at hc
      subst hc
      clear h2
      have H1 := Lib.hid h1
      clear h1
      go_wp2_with (first | go_skip | ((with_reducible apply fL F); exact rfl; exact rfl; (exact tL); (exact tR3)) | ((with_reducible apply fSli F slInt); exact rfl; exact rfl; exact rfl; decide; decide; (go_simp; exact rfl); exact rfl) | ((with_reducible apply fA_rat F); exact rfl) | ((with_reducible apply fS F); exact rfl; exact rfl; exact rfl; (exact tL); (exact tR3); (exact tS2); clear F; intro W F; simp only [z7, z8] at F))
      go_meet
    · exact ⟨x, y, x', y', ⟨HX.out.1, HX'.out.1, HX.out.2, HX'.out.2, by have := H1.out; omega⟩, F⟩
    · exact ⟨x', y', x, y, ⟨HX'.out.1, HX.out.1, HX'.out.2, HX.out.2, by have := H1.out; omega⟩, F⟩
    · exact ⟨x, y, x', y', ⟨HX.out.1, HX'.out.1, HX.out.2, HX'.out.2, by have := H1.out; omega⟩, F⟩
  case rest =>
  clear F HX HX' hc
  obtain ⟨x, y, x', y', hxy, F⟩ := hcut
  have HX := Lib.hid hxy
  clear hxy
  have g1 := fun w => rnegR HX.out.1 w
  go_wp2_with (first | go_skip | ((go_at_call 15); (with_reducible refine fr_call F (g1 _) ?_); (clear F; intro W F); (try dsimp only)) | ((with_reducible apply fL F); exact rfl; exact rfl; (exact tL); (exact tR3)) | ((with_reducible apply fSli F slInt); exact rfl; exact rfl; exact rfl; decide; decide; (go_simp; exact rfl); exact rfl) | ((with_reducible apply fA_rat F); exact rfl) | ((with_reducible apply fS F); exact rfl; exact rfl; exact rfl; (exact tL); (exact tR3); (exact tS2); clear F; intro W F; simp only [z7, z8] at F))
  (clear F; intro b6 W F; try simp only [Act.put, z6, z1, z2])
  clear g1
  go_wp2_with (first | go_skip | ((go_at_call 16); (with_reducible refine fr_tap F T (tnext _ (by decide) (by decide) (T.at F)) ?_); (try clear F T); (rintro _ u W ⟨p, rfl, hp⟩ T F); (try dsimp only)) | ((with_reducible apply fL F); exact rfl; exact rfl; (exact tL); (exact tR3)) | ((with_reducible apply fSli F slInt); exact rfl; exact rfl; exact rfl; decide; decide; (go_simp; exact rfl); exact rfl) | ((with_reducible apply fA_rat F); exact rfl) | ((with_reducible apply fS F); exact rfl; exact rfl; exact rfl; (exact tL); (exact tR3); (exact tS2); clear F; intro W F; simp only [z7, z8] at F))
  have hp2 : p ≤ 2 := by omega
  clear hp
  go_loopw [9, 10, 11, 12, 13, 14, 15, 16] (fun iv v10 v11 v12 v13 v14 v15 v16 wr => ∃ i : Nat, 1 ≤ i ∧ i ≤ 7 ∧ iv = .int .i64 i ∧ Fr u wr [(b6, RC (-x) y, 31), (b5, RC x' y', 31), (b4, RC x y, 31)]) (fun iv v10 v11 v12 v13 v14 v15 v16 _ => 8 - (intOf iv).toNat)
  case atStart => exact ⟨1, by omega, by omega, rfl, F⟩
  case round =>
    clear F
    obtain ⟨i, h1, h7, rfl, F⟩ := hrel
    by_cases h6 : i ≤ 6
    · obtain ⟨z1, z2, g1, g2, g3, hz, hz1, hz2⟩ := mono_step HX.out.1 HX.out.2.1 HX.out.2.2.1 HX.out.2.2.2.1 hp2 h1 h6 HX.out.2.2.2.2
      have t1 : decide ((i : Int) ≤ 6) = true := decide_eq_true (by omega)
      have t2 : decide (z2 < z1) = false := decide_eq_false (by omega)
      have t5 : (-z1 != -z1) = false := by simp
      have hi : i = 3 ∨ i = 4 ∨ (mirM i = i ∧ ((i : Int) == 3) = false ∧ ((i : Int) == 4) = false) := by
        by_cases h3 : i = 3
        · exact .inl h3
        · by_cases h4 : i = 4
          · exact .inr (.inl h4)
          · refine .inr (.inr ⟨?_, beq_eq_false_iff_ne.2 (by omega), beq_eq_false_iff_ne.2 (by omega)⟩)
            unfold mirM
            rw [if_neg (by omega), if_neg (by omega)]
      rcases hi with rfl | rfl | ⟨hm, t3, t4⟩
      · rw [show mirM ((3 : Nat) : Int) = 4 from rfl] at g3
        go_wp2_with (first | go_skip | ((go_at_call 17); (with_reducible refine fr_call F (g1 _) ?_); (clear F; intro W F); (try dsimp only)) | ((go_at_call 17); (with_reducible refine fr_call F (g2 _) ?_); (clear F; intro W F); (try dsimp only)) | ((go_at_call 17); (with_reducible refine fr_call F (g3 _) ?_); (clear F; intro W F); (try dsimp only)) | ((with_reducible apply fL F); exact rfl; exact rfl; (exact tL); (exact tR3)) | ((with_reducible apply fSli F slInt); exact rfl; exact rfl; exact rfl; decide; decide; (go_simp; exact rfl); exact rfl) | ((with_reducible apply fA_rat F); exact rfl) | ((with_reducible apply fS F); exact rfl; exact rfl; exact rfl; (exact tL); (exact tR3); (exact tS2); clear F; intro W F; simp only [z7, z8] at F))
        go_roundw
        case rel => exact ⟨4, by omega, by omega, rfl, F⟩
        case measure => simp [intOf]
      · rw [show mirM ((4 : Nat) : Int) = 3 from rfl] at g3
        go_wp2_with (first | go_skip | ((go_at_call 17); (with_reducible refine fr_call F (g1 _) ?_); (clear F; intro W F); (try dsimp only)) | ((go_at_call 17); (with_reducible refine fr_call F (g2 _) ?_); (clear F; intro W F); (try dsimp only)) | ((go_at_call 17); (with_reducible refine fr_call F (g3 _) ?_); (clear F; intro W F); (try dsimp only)) | ((with_reducible apply fL F); exact rfl; exact rfl; (exact tL); (exact tR3)) | ((with_reducible apply fSli F slInt); exact rfl; exact rfl; exact rfl; decide; decide; (go_simp; exact rfl); exact rfl) | ((with_reducible apply fA_rat F); exact rfl) | ((with_reducible apply fS F); exact rfl; exact rfl; exact rfl; (exact tL); (exact tR3); (exact tS2); clear F; intro W F; simp only [z7, z8] at F))
        go_roundw
        case rel => exact ⟨5, by omega, by omega, rfl, F⟩
        case measure => simp [intOf]
      · rw [hm] at g3
        go_wp2_with (first | go_skip | ((go_at_call 17); (with_reducible refine fr_call F (g1 _) ?_); (clear F; intro W F); (try dsimp only)) | ((go_at_call 17); (with_reducible refine fr_call F (g2 _) ?_); (clear F; intro W F); (try dsimp only)) | ((go_at_call 17); (with_reducible refine fr_call F (g3 _) ?_); (clear F; intro W F); (try dsimp only)) | ((with_reducible apply fL F); exact rfl; exact rfl; (exact tL); (exact tR3)) | ((with_reducible apply fSli F slInt); exact rfl; exact rfl; exact rfl; decide; decide; (go_simp; exact rfl); exact rfl) | ((with_reducible apply fA_rat F); exact rfl) | ((with_reducible apply fS F); exact rfl; exact rfl; exact rfl; (exact tL); (exact tR3); (exact tS2); clear F; intro W F; simp only [z7, z8] at F))
        go_roundw
        case rel => exact ⟨i + 1, by omega, by omega, by first | rfl | go_num, F⟩
        case measure => simp [intOf]; omega
    · have t1 : decide ((i : Int) ≤ 6) = false := decide_eq_false (by omega)
      go_wp2_with (first | go_skip | ((go_at_call 18); (with_reducible refine fr_call F (gk _ _ _ _ T F) ?_); (clear F; intro W F); (try dsimp only)) | ((with_reducible apply fL F); exact rfl; exact rfl; (exact tL); (exact tR3)) | ((with_reducible apply fSli F slInt); exact rfl; exact rfl; exact rfl; decide; decide; (go_simp; exact rfl); exact rfl) | ((with_reducible apply fA_rat F); exact rfl) | ((with_reducible apply fS F); exact rfl; exact rfl; exact rfl; (exact tL); (exact tR3); (exact tS2); clear F; intro W F; simp only [z7, z8] at F))
      go_ret
      exact HO.out _ _ _ _ T F
end
end Go.Proofs.YtpaodheilchfnaaGreatDoor
