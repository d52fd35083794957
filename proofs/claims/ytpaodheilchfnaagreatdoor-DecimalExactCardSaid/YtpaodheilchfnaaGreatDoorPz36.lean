/- What the laws lean on. -/
import Derived.Test.YtpaodheilchfnaaGreatDoorPz27
import Derived.Test.YtpaodheilchfnaaGreatDoorPz28
import Derived.Test.YtpaodheilchfnaaGreatDoorPz29
namespace Go.Proofs.YtpaodheilchfnaaGreatDoor
set_option linter.unusedVariables false
set_option linter.unusedSimpArgs false
section
open Go.RowKit
set_option maxHeartbeats 4000000
set_option maxRecDepth 100000 in
theorem rtoInt_any {z : Int} (hz : z.natAbs < bp 32) {r : Int × Bool} (hr : toI z = r) (w : World) : Calls Tryz.prog 81 #[.agg (IC z)] w (RetB (.tuple #[.int .i64 r.1, .bool r.2]) w) := by
  have F := Fr.start w
  have g1 := fun w => canon_self hz w
  obtain ⟨n, hn, hu⟩ := used_ex z.natAbs hz
  have g2 := fun w => rlimbs_any hz hu w
  have hu2 := used_two hu
  obtain ⟨m, hm⟩ : ∃ m, z.natAbs = m := ⟨_, rfl⟩
  obtain ⟨g, hg⟩ : ∃ g, decide (z < 0) = g := ⟨_, rfl⟩
  rw [hg] at g1
  rw [hm] at hu2 
  have HR := Lib.hid (And.intro hr (And.intro hm hg))
  have hc0 : ∀ W b L, Fr w W ((b, IC z, 29) :: L) → W.cell? ⟨b, 0, none⟩ = some (.bool g) := fun W b L h => by
    have h2 := (h.get Lies.here).cell (intC_neg (decide (z < 0)) z.natAbs)
    rwa [hg] at h2
  have hcl : ∀ W b L i, i < 32 → Fr w W ((b, IC z, 29) :: L) → W.cell? ⟨b, 1 + i, none⟩ = some (.int .u32 (lim m i)) := fun W b L i hi h => by
    have h2 := (h.get Lies.here).cell (intC_limb (n := decide (z < 0)) (m := z.natAbs) hi)
    rwa [hm] at h2
  clear hr hm hg hu hz hn
  go_enter Tryz.func81, Tryz.ntmps81
  go_wp2_with (first | go_skip | ((with_reducible apply fL F); exact rfl; exact rfl; (exact tL); (exact tR3)) | ((with_reducible apply fLm F); exact rfl; exact rfl; (exact tL); (exact tM3); (exact tR3)) | ((with_reducible apply fX_int F); exact rfl; exact rfl) | ((with_reducible apply fS F); exact rfl; exact rfl; exact rfl; (exact tL); (exact tR3); (exact tS2); clear F; intro W F; simp only [z7, z8] at F))
  (clear F; intro b1 W F; try simp only [Act.put, z6, z1, z2])
  have c0 := hc0 _ _ _ F
  go_upto_region 2 with (first | go_skip | ((go_at_call 129); (with_reducible refine fr_call F (g1 _) ?_); (clear F; intro W F); (try dsimp only)) | ((with_reducible apply fL F); exact rfl; exact rfl; (exact tL); (exact tR3)) | ((with_reducible apply fLm F); exact rfl; exact rfl; (exact tL); (exact tM3); (exact tR3)) | ((with_reducible apply fX_int F); exact rfl; exact rfl) | ((with_reducible apply fS F); exact rfl; exact rfl; exact rfl; (exact tL); (exact tR3); (exact tS2); clear F; intro W F; simp only [z7, z8] at F))
  clear c0
  have c0 := hc0 _ _ _ F
  have c1 := hcl _ _ _ 0 (by decide) F
  have c2 := hcl _ _ _ 1 (by decide) F
  clear hc0 hcl
  by_cases h2 : ¬ n ≤ 2
  · have hr : (0, false) = r := by
      obtain ⟨h1, h3, h4⟩ := HR.out
      rw [← h1, toI, if_neg]
      intro ⟨h5, h6⟩
      exact h2 (hu2.2 (by omega))
    subst hr
    have t1 : decide ((2 : Int) < (n : Int)) = true := decide_eq_true (by omega)
    clear hu2 h2 HR c0 c1 c2
    go_wp2_with (first | go_skip | ((go_at_call 130); (with_reducible refine fr_call F (g2 _) ?_); (clear F; intro W F); (try dsimp only)) | ((with_reducible apply fL F); exact rfl; exact rfl; (exact tL); (exact tR3)) | ((with_reducible apply fLm F); exact rfl; exact rfl; (exact tL); (exact tM3); (exact tR3)) | ((with_reducible apply fX_int F); exact rfl; exact rfl) | ((with_reducible apply fS F); exact rfl; exact rfl; exact rfl; (exact tL); (exact tR3); (exact tS2); clear F; intro W F; simp only [z7, z8] at F))
    go_ret2
    exact ⟨rfl, F.below⟩
  rw [Classical.not_not] at h2
  have hl := hu2.1 h2
  have t1 : decide ((2 : Int) < (n : Int)) = false := decide_eq_false (by omega)
  have hcell : ∀ W, Fr w W [(b1, IC z, 29)] → W.cell? ⟨b1, 0, none⟩ = some (.bool g) ∧ W.cell? ⟨b1, 1, none⟩ = some (.int .u32 (lim m 0)) ∧ W.cell? ⟨b1, 2, none⟩ = some (.int .u32 (lim m 1)) := fun W h => by
    have h1 := (h.get Lies.here).cell (intC_neg (decide (z < 0)) z.natAbs)
    have h2 := (h.get Lies.here).cell (intC_limb (n := decide (z < 0)) (m := z.natAbs) (i := 0) (by decide))
    have h3 := (h.get Lies.here).cell (intC_limb (n := decide (z < 0)) (m := z.natAbs) (i := 1) (by decide))
    rw [HR.out.2.2] at h1
    rw [HR.out.2.1] at h2 h3
    exact ⟨h1, h2, h3⟩
  have e := two_lims hl
  have k1 := lim_lt m 1
  have k0 := lim_lt m 0
  obtain ⟨x, hx⟩ : ∃ x, lim m 1 = x := ⟨_, rfl⟩
  obtain ⟨y, hy⟩ : ∃ y, lim m 0 = y := ⟨_, rfl⟩
  rw [hx, hy] at e
  simp only [hx, hy] at hcell
  rw [hx] at k1
  rw [hy] at k0
  have ho := or64 k1 k0
  rw [← e] at ho
  clear hx hy e hu2 h2 c0 c1 c2
  go_upto_region 4 with (first | go_skip | ((go_at_call 130); (with_reducible refine fr_call F (g2 _) ?_); (clear F; intro W F); (try dsimp only)) | ((with_reducible apply fL F); exact rfl; exact rfl; (exact tL); (exact tR3)) | ((with_reducible apply fLm F); exact rfl; exact rfl; (exact tL); (exact tM3); (exact tR3)) | ((with_reducible apply fX_int F); exact rfl; exact rfl) | ((with_reducible apply fS F); exact rfl; exact rfl; exact rfl; (exact tL); (exact tR3); (exact tS2); clear F; intro W F; simp only [z7, z8] at F))
  obtain ⟨c0, c1, c2⟩ := hcell _ F
  clear hcell g1 g2
  cases g
  · have hz := of_decide_eq_false HR.out.2.2
    by_cases h63 : m < 9223372036854775808
    · have hr : ((m : Int), true) = r := by
        obtain ⟨h1, h2, h3⟩ := HR.out
        rw [← h1, toI, if_pos (by omega)]
        have : z = (m : Int) := by omega
        rw [this]
      subst hr
      have e := IntWalk.i64_in (m : Int) (by omega)
      have t2 : decide ((m : Int) < 9223372036854775808) = true := decide_eq_true (by omega)
      clear h63 hz hl
      go_wp2_with fail
      go_ret2
      exact ⟨rfl, F.below⟩
    · have hr : (0, false) = r := by
        obtain ⟨h1, h2, h3⟩ := HR.out
        rw [← h1, toI, if_neg (by omega)]
      subst hr
      have t2 : decide ((m : Int) < 9223372036854775808) = false := decide_eq_false (by omega)
      clear h63 hz hl
      go_wp2_with fail
      go_ret2
      exact ⟨rfl, F.below⟩
  · have hz := of_decide_eq_true HR.out.2.2
    by_cases h63 : m ≤ 9223372036854775808
    · have hr : (-(m : Int), true) = r := by
        obtain ⟨h1, h2, h3⟩ := HR.out
        rw [← h1, toI, if_pos (by omega)]
        have : z = -(m : Int) := by omega
        rw [this]
      subst hr
      have t2 : decide ((m : Int) ≤ 9223372036854775808) = true := decide_eq_true (by omega)
      have HW := Lib.hid (show RowKit.wrap64 (IntKind.u64.wrap (-(m : Int))) = -(m : Int) by rw [IntKind.wrap_u64, RowKit.wrap64]; omega)
      clear h63 hz hl
      go_wp2_with fail
      go_ret2
      exact ⟨by rw [HW.out]; rfl, F.below⟩
    · have hr : (0, false) = r := by
        obtain ⟨h1, h2, h3⟩ := HR.out
        rw [← h1, toI, if_neg (by omega)]
      subst hr
      have t2 : decide ((m : Int) ≤ 9223372036854775808) = false := decide_eq_false (by omega)
      clear h63 hz hl
      go_wp2_with fail
      go_ret2
      exact ⟨rfl, F.below⟩
end
section
open Go.RowKit
set_option maxHeartbeats 4000000
set_option maxRecDepth 100000 in
theorem rroundInt_any {x : Bool} {a : Nat} {y : Bool} {b : Nat} (ha : a < bp 32) (hb : b < bp 32) {p m : Int} {r : Int × Int} (hr : rndI (okR x a y b) (sZ x a) (sZ y b) p m = r) (w : World) : Calls Tryz.prog 27 #[.agg (ratC x a y b), .int .i64 p, .int .i64 m] w (RetB (.tuple #[.int .i64 r.1, .int .i64 r.2]) w) := by
  have F := Fr.start w
  have hl := rnd_lt (x := x) (a := a) (y := y) (b := b) (p := p) (m := m)
  unfold rndI at hr
  obtain ⟨s, hs⟩ : ∃ s, rndR (okR x a y b) (sZ x a) (sZ y b) p m = s := ⟨_, rfl⟩
  have g1 := fun w => rround_any ha hb hs w
  rw [hs] at hr hl
  obtain ⟨z, e⟩ := s
  dsimp only at hr hl g1
  have g2 := fun w => rtoInt_any (z := z) (Nat.lt_of_lt_of_le hl (bp_le (by decide))) rfl w
  have HR := Lib.hid hr
  clear hr hl hs ha hb
  go_enter Tryz.func27, Tryz.ntmps27
  go_wp2_with (first | go_skip | ((with_reducible apply fL F); exact rfl; exact rfl; (exact tL); (exact tR3)) | ((with_reducible apply fA_int F); exact rfl) | ((with_reducible apply fX_rat F); exact rfl; exact rfl) | ((with_reducible apply fS F); exact rfl; exact rfl; exact rfl; (exact tL); (exact tR3); (exact tS2); clear F; intro W F; simp only [z7, z8] at F))
  (clear F; intro b3 W F; try simp only [Act.put, z6, z1, z2])
  go_wp2_with (first | go_skip | ((go_at_call 26); (with_reducible refine fr_call F (g1 _) ?_); (clear F; intro W F); (try dsimp only)) | ((with_reducible apply fL F); exact rfl; exact rfl; (exact tL); (exact tR3)) | ((with_reducible apply fA_int F); exact rfl) | ((with_reducible apply fX_rat F); exact rfl; exact rfl) | ((with_reducible apply fS F); exact rfl; exact rfl; exact rfl; (exact tL); (exact tR3); (exact tS2); clear F; intro W F; simp only [z7, z8] at F))
  (clear F; intro b8 W F; try simp only [Act.put, z6, z1, z2])
  by_cases he : e = 0
  · have hr := HR.out
    rw [if_neg (by rw [Classical.not_not]; exact he)] at hr
    subst he
    clear HR
    by_cases hz : -1000000000000000 ≤ z ∧ z ≤ 1000000000000000
    · rw [if_pos hz] at hr
      subst hr
      rw [toI, if_pos (by omega)] at g2
      have t1 : decide (z < -1000000000000000) = false := decide_eq_false (by omega)
      have t2 : decide (1000000000000000 < z) = false := decide_eq_false (by omega)
      clear hz
      go_wp2_with (first | go_skip | ((go_at_call 81); (with_reducible refine fr_call F (g2 _) ?_); (clear F; intro W F); (try dsimp only)) | ((with_reducible apply fL F); exact rfl; exact rfl; (exact tL); (exact tR3)) | ((with_reducible apply fA_int F); exact rfl) | ((with_reducible apply fX_rat F); exact rfl; exact rfl) | ((with_reducible apply fS F); exact rfl; exact rfl; exact rfl; (exact tL); (exact tR3); (exact tS2); clear F; intro W F; simp only [z7, z8] at F))
      go_ret2
      exact ⟨rfl, F.below⟩
    · rw [if_neg hz] at hr
      subst hr
      by_cases h1 : -9223372036854775808 ≤ z ∧ z < 9223372036854775808
      · rw [toI, if_pos h1] at g2
        by_cases h2 : z < -1000000000000000
        · have t1 : decide (z < -1000000000000000) = true := decide_eq_true h2
          have t2 : decide (1000000000000000 < z) = false := decide_eq_false (by omega)
          clear hz h1 h2
          go_wp2_with (first | go_skip | ((go_at_call 81); (with_reducible refine fr_call F (g2 _) ?_); (clear F; intro W F); (try dsimp only)) | ((with_reducible apply fL F); exact rfl; exact rfl; (exact tL); (exact tR3)) | ((with_reducible apply fA_int F); exact rfl) | ((with_reducible apply fX_rat F); exact rfl; exact rfl) | ((with_reducible apply fS F); exact rfl; exact rfl; exact rfl; (exact tL); (exact tR3); (exact tS2); clear F; intro W F; simp only [z7, z8] at F))
          go_ret2
          exact ⟨rfl, F.below⟩
        · have t1 : decide (z < -1000000000000000) = false := decide_eq_false h2
          have t2 : decide (1000000000000000 < z) = true := decide_eq_true (by omega)
          clear hz h1 h2
          go_wp2_with (first | go_skip | ((go_at_call 81); (with_reducible refine fr_call F (g2 _) ?_); (clear F; intro W F); (try dsimp only)) | ((with_reducible apply fL F); exact rfl; exact rfl; (exact tL); (exact tR3)) | ((with_reducible apply fA_int F); exact rfl) | ((with_reducible apply fX_rat F); exact rfl; exact rfl) | ((with_reducible apply fS F); exact rfl; exact rfl; exact rfl; (exact tL); (exact tR3); (exact tS2); clear F; intro W F; simp only [z7, z8] at F))
          go_ret2
          exact ⟨rfl, F.below⟩
      · rw [toI, if_neg h1] at g2
        clear hz h1
        go_wp2_with (first | go_skip | ((go_at_call 81); (with_reducible refine fr_call F (g2 _) ?_); (clear F; intro W F); (try dsimp only)) | ((with_reducible apply fL F); exact rfl; exact rfl; (exact tL); (exact tR3)) | ((with_reducible apply fA_int F); exact rfl) | ((with_reducible apply fX_rat F); exact rfl; exact rfl) | ((with_reducible apply fS F); exact rfl; exact rfl; exact rfl; (exact tL); (exact tR3); (exact tS2); clear F; intro W F; simp only [z7, z8] at F))
        go_ret2
        exact ⟨rfl, F.below⟩
  · have hr := HR.out
    rw [if_pos he] at hr
    subst hr
    clear HR g2
    go_wp2_with (first | go_skip | ((with_reducible apply fL F); exact rfl; exact rfl; (exact tL); (exact tR3)) | ((with_reducible apply fA_int F); exact rfl) | ((with_reducible apply fX_rat F); exact rfl; exact rfl) | ((with_reducible apply fS F); exact rfl; exact rfl; exact rfl; (exact tL); (exact tR3); (exact tS2); clear F; intro W F; simp only [z7, z8] at F))
    go_ret2
    exact ⟨rfl, F.below⟩
set_option maxRecDepth 100000 in
theorem rquantize_any {x : Bool} {a : Nat} {y : Bool} {b : Nat} (ha : a < bp 32) (hb : b < bp 32) {p m : Int} {r : Int × Int × Int} (hr : qntR (okR x a y b) (sZ x a) (sZ y b) p m = r) (w : World) : Calls Tryz.prog 29 #[.agg (ratC x a y b), .int .i64 p, .int .i64 m] w (RetB (.tuple #[.agg (RC r.1 r.2.1), .int .i64 r.2.2]) w) := by
  have F := Fr.start w
  have hl := rnd_lt (x := x) (a := a) (y := y) (b := b) (p := p) (m := m)
  have hp := rnd_places (v := okR x a y b) (n := sZ x a) (d := sZ y b) (p := p) (m := m)
  unfold qntR at hr
  obtain ⟨s, hs⟩ : ∃ s, rndR (okR x a y b) (sZ x a) (sZ y b) p m = s := ⟨_, rfl⟩
  have g1 := fun w => rround_any ha hb hs w
  rw [hs] at hr hl hp
  obtain ⟨z, e⟩ := s
  dsimp only at hr hl g1 hp
  have HR := Lib.hid hr
  have HP := Lib.hid hp
  clear hr hs ha hb hp
  go_enter Tryz.func29, Tryz.ntmps29
  go_wp2_with (first | go_skip | ((with_reducible apply fL F); exact rfl; exact rfl; (exact tL); (exact tR3)) | ((with_reducible apply fA_int F); exact rfl) | ((with_reducible apply fA_rat F); exact rfl) | ((with_reducible apply fX_rat F); exact rfl; exact rfl) | ((with_reducible apply fS F); exact rfl; exact rfl; exact rfl; (exact tL); (exact tR3); (exact tS2); clear F; intro W F; simp only [z7, z8] at F) | ((with_reducible apply fB_rat0); exact rfl))
  (clear F; intro b3 W F; try simp only [Act.put, z6, z1, z2])
  go_wp2_with (first | go_skip | ((with_reducible apply fL F); exact rfl; exact rfl; (exact tL); (exact tR3)) | ((with_reducible apply fA_int F); exact rfl) | ((with_reducible apply fA_rat F); exact rfl) | ((with_reducible apply fX_rat F); exact rfl; exact rfl) | ((with_reducible apply fS F); exact rfl; exact rfl; exact rfl; (exact tL); (exact tR3); (exact tS2); clear F; intro W F; simp only [z7, z8] at F) | ((with_reducible apply fB_rat0); exact rfl))
  (clear F; intro b6 W F; try simp only [Act.put, z6, z1, z2])
  go_wp2_with (first | go_skip | ((go_at_call 26); (with_reducible refine fr_call F (g1 _) ?_); (clear F; intro W F); (try dsimp only)) | ((with_reducible apply fL F); exact rfl; exact rfl; (exact tL); (exact tR3)) | ((with_reducible apply fA_int F); exact rfl) | ((with_reducible apply fA_rat F); exact rfl) | ((with_reducible apply fX_rat F); exact rfl; exact rfl) | ((with_reducible apply fS F); exact rfl; exact rfl; exact rfl; (exact tL); (exact tR3); (exact tS2); clear F; intro W F; simp only [z7, z8] at F) | ((with_reducible apply fB_rat0); exact rfl))
  (clear F; intro b8 W F; try simp only [Act.put, z6, z1, z2])
  by_cases he : e = 0
  · have hr := HR.out
    obtain ⟨-, p0, p9, -, -⟩ := HP.out he
    rw [if_neg (by rw [Classical.not_not]; exact he)] at hr
    subst he
    clear HR HP
    obtain ⟨q, rfl⟩ : ∃ q : Nat, p = (q : Int) := ⟨p.toNat, by omega⟩
    have hq : q ≤ 9 := by omega
    rw [Int.toNat_natCast] at hr
    have ht := ten_le hq
    have g2 := fun w => rpower_any hq w
    obtain ⟨t, htt⟩ : ∃ t : Nat, 10 ^ q = t := ⟨_, rfl⟩
    rw [htt] at g2 ht hr
    have hq2 : (t : Int).natAbs < bp 32 := Nat.lt_of_lt_of_le (show (t : Int).natAbs < bp 2 by unfold bp; omega) (bp_le (by decide))
    have g4 := fun w => rmakeZ (Nat.lt_of_lt_of_le hl (bp_le (by decide))) hq2 hr w
    obtain ⟨rn, rd, re⟩ := r
    dsimp only at g4
    clear hr hl ht htt hq2 p0 p9 hq
    go_wp2_with (first | go_skip | ((with_reducible apply fL F); exact rfl; exact rfl; (exact tL); (exact tR3)) | ((with_reducible apply fA_int F); exact rfl) | ((with_reducible apply fA_rat F); exact rfl) | ((with_reducible apply fX_rat F); exact rfl; exact rfl) | ((with_reducible apply fS F); exact rfl; exact rfl; exact rfl; (exact tL); (exact tR3); (exact tS2); clear F; intro W F; simp only [z7, z8] at F) | ((with_reducible apply fB_rat0); exact rfl))
    try simp only [Act.put, z6, z1, z2]
    refine wp_region_slots mixP [7, 21, 22, 23, 24, 25, 26, 27] (fun l mm W => ∃ (s7 s21 s22 s23 s24 s25 s26 s27 : Value) (c_b6 : Array Value), mm = [s7, s21, s22, s23, s24, s25, s26, s27] ∧ (l.getD 0 false = true → s21 = .agg (IC z)) ∧ (l.getD 1 false = true → s22 = .int .i64 (q : Int)) ∧ (l.getD 2 false = true → s23 = .agg (RC (t : Int) 1)) ∧ (l.getD 3 false = true → s24 = .agg (IC (t : Int))) ∧ (l.getD 4 false = true → s25 = .tuple #[.agg (RC rn rd), .int .i64 re]) ∧ (l.getD 5 false = true → s26 = .agg (RC rn rd)) ∧ (l.getD 6 false = true → s27 = .int .i64 re) ∧ (l.getD 7 false = true → c_b6 = RC rn rd) ∧ (l.getD 8 false = true → s7 = .int .i64 re) ∧ c_b6.size = (RC rn rd).size ∧ Fr w W [(b8, IC z, 29), (b6, c_b6, 31), (b3, ratC x a y b, 31)]) (by kernel_rfl) (putAll_self _ _) ?_ ?_ ?_
    · exact ⟨_, _, _, _, _, _, _, _, (RC 0 0), rfl, nf, nf, nf, nf, nf, nf, nf, nf, nf, by exact tS2, F.drew⟩
    · rintro listed mm W ii hi hsz hoff ⟨s7, s21, s22, s23, s24, s25, s26, s27, c_b6, rfl, h0, h1, h2, h3, h4, h5, h6, h7, h8, hz0, HF⟩ hd
      have hc := dr_c9 hi
      have hsz2 : listed.size = 9 := hsz
      clear hi hsz
      rcases hc with rfl | rfl | rfl | rfl | rfl | rfl | rfl | rfl | rfl
      · refine wpOp_want rfl rfl (fun K hK => ?_)
        simp only [putAll, z1, z2, z3, z4, z5]
        with_reducible apply gL HF
        · exact rfl
        · (exact tL)
        · (first | (exact tR3))
        go_simp
        exact hK _ _ ⟨[s7, (.agg (IC z)), s22, s23, s24, s25, s26, s27], by simp only [putAll, z1, z2], s7, (.agg (IC z)), s22, s23, s24, s25, s26, s27, c_b6, rfl, fun _ => rfl, lk h1, lk h2, lk h3, lk h4, lk h5, lk h6, lk h7, lk h8, hz0, HF⟩
      · refine wpOp_want rfl rfl (fun K hK => ?_)
        simp only [putAll, z1, z2, z3, z4, z5]
        refine ⟨?_⟩
        go_simp
        exact hK _ _ ⟨[s7, s21, (.int .i64 (q : Int)), s23, s24, s25, s26, s27], by simp only [putAll, z1, z2], s7, s21, (.int .i64 (q : Int)), s23, s24, s25, s26, s27, c_b6, rfl, lk h0, fun _ => rfl, lk h2, lk h3, lk h4, lk h5, lk h6, lk h7, lk h8, hz0, HF⟩
      · have d1 := h1 (hd 1 (by kernel_rfl))
        obtain rfl := d1
        refine wpOp_want rfl rfl (fun K hK => ?_)
        simp only [putAll, z1, z2, z3, z4, z5]
        refine ⟨?_⟩
        go_simp
        with_reducible refine fr_call HF (g2 _) ?_
        clear HF
        intro W HF
        (try dsimp only)
        exact hK _ _ ⟨[s7, s21, (.int .i64 (q : Int)), (.agg (RC (t : Int) 1)), s24, s25, s26, s27], by simp only [putAll, z1, z2], s7, s21, (.int .i64 (q : Int)), (.agg (RC (t : Int) 1)), s24, s25, s26, s27, c_b6, rfl, lk h0, lk h1, fun _ => rfl, lk h3, lk h4, lk h5, lk h6, lk h7, lk h8, hz0, HF⟩
      · have d2 := h2 (hd 2 (by kernel_rfl))
        obtain rfl := d2
        refine wpOp_want rfl rfl (fun K hK => ?_)
        simp only [putAll, z1, z2, z3, z4, z5]
        with_reducible apply gF_num
        · exact rfl
        go_simp
        exact hK _ _ ⟨[s7, s21, s22, (.agg (RC (t : Int) 1)), (.agg (IC (t : Int))), s25, s26, s27], by simp only [putAll, z1, z2], s7, s21, s22, (.agg (RC (t : Int) 1)), (.agg (IC (t : Int))), s25, s26, s27, c_b6, rfl, lk h0, lk h1, lk h2, fun _ => rfl, lk h4, lk h5, lk h6, lk h7, lk h8, hz0, HF⟩
      · have d0 := h0 (hd 0 (by kernel_rfl))
        have d3 := h3 (hd 3 (by kernel_rfl))
        obtain rfl := d0
        obtain rfl := d3
        refine wpOp_want rfl rfl (fun K hK => ?_)
        simp only [putAll, z1, z2, z3, z4, z5]
        refine ⟨?_⟩
        go_simp
        with_reducible refine fr_call HF (g4 _) ?_
        clear HF
        intro W HF
        (try dsimp only)
        exact hK _ _ ⟨[s7, (.agg (IC z)), s22, s23, (.agg (IC (t : Int))), (.tuple #[.agg (RC rn rd), .int .i64 re]), s26, s27], by simp only [putAll, z1, z2], s7, (.agg (IC z)), s22, s23, (.agg (IC (t : Int))), (.tuple #[.agg (RC rn rd), .int .i64 re]), s26, s27, c_b6, rfl, lk h0, lk h1, lk h2, lk h3, fun _ => rfl, lk h5, lk h6, lk h7, lk h8, hz0, HF⟩
      · have d4 := h4 (hd 4 (by kernel_rfl))
        obtain rfl := d4
        refine wpOp_want rfl rfl (fun K hK => ?_)
        simp only [putAll, z1, z2, z3, z4, z5]
        refine ⟨?_⟩
        go_simp
        exact hK _ _ ⟨[s7, s21, s22, s23, s24, (.tuple #[.agg (RC rn rd), .int .i64 re]), (.agg (RC rn rd)), s27], by simp only [putAll, z1, z2], s7, s21, s22, s23, s24, (.tuple #[.agg (RC rn rd), .int .i64 re]), (.agg (RC rn rd)), s27, c_b6, rfl, lk h0, lk h1, lk h2, lk h3, lk h4, fun _ => rfl, lk h6, lk h7, lk h8, hz0, HF⟩
      · have d4 := h4 (hd 4 (by kernel_rfl))
        obtain rfl := d4
        refine wpOp_want rfl rfl (fun K hK => ?_)
        simp only [putAll, z1, z2, z3, z4, z5]
        refine ⟨?_⟩
        go_simp
        exact hK _ _ ⟨[s7, s21, s22, s23, s24, (.tuple #[.agg (RC rn rd), .int .i64 re]), s26, (.int .i64 re)], by simp only [putAll, z1, z2], s7, s21, s22, s23, s24, (.tuple #[.agg (RC rn rd), .int .i64 re]), s26, (.int .i64 re), c_b6, rfl, lk h0, lk h1, lk h2, lk h3, lk h4, lk h5, fun _ => rfl, lk h7, lk h8, hz0, HF⟩
      · have d5 := h5 (hd 5 (by kernel_rfl))
        obtain rfl := d5
        refine wpOp_want rfl rfl (fun K hK => ?_)
        simp only [putAll, z1, z2, z3, z4, z5]
        with_reducible apply gS HF
        · exact rfl
        · exact rfl
        · (exact tL)
        · (first | (exact tR3))
        · first | exact hz0 | exact tS2
        clear HF
        intro W HF
        simp only [z7, z8, List.append_assoc, List.append_nil] at HF
        go_simp
        exact hK _ _ ⟨[s7, s21, s22, s23, s24, s25, (.agg (RC rn rd)), s27], by simp only [putAll, z1, z2], s7, s21, s22, s23, s24, s25, (.agg (RC rn rd)), s27, (RC rn rd), rfl, lk h0, lk h1, lk h2, lk h3, lk h4, lk h5, lk h6, fun _ => rfl, lk h8, rfl, HF⟩
      · have d6 := h6 (hd 6 (by kernel_rfl))
        obtain rfl := d6
        refine wpOp_want rfl rfl (fun K hK => ?_)
        simp only [putAll, z1, z2, z3, z4, z5]
        refine ⟨?_⟩
        go_simp
        exact hK _ _ ⟨[(.int .i64 re), s21, s22, s23, s24, s25, s26, (.int .i64 re)], by simp only [putAll, z1, z2], (.int .i64 re), s21, s22, s23, s24, s25, s26, (.int .i64 re), c_b6, rfl, lk h0, lk h1, lk h2, lk h3, lk h4, lk h5, lk h6, lk h7, fun _ => rfl, hz0, HF⟩
    rintro listed mm W ⟨s7, s21, s22, s23, s24, s25, s26, s27, c_b6, rfl, h0, h1, h2, h3, h4, h5, h6, h7, h8, hz0, HF⟩ hall
    obtain rfl := h0 (hall 0 (by decide))
    obtain rfl := h1 (hall 1 (by decide))
    obtain rfl := h2 (hall 2 (by decide))
    obtain rfl := h3 (hall 3 (by decide))
    obtain rfl := h4 (hall 4 (by decide))
    obtain rfl := h5 (hall 5 (by decide))
    obtain rfl := h6 (hall 6 (by decide))
    rw [h7 (hall 7 (by decide))] at HF
    obtain rfl := h8 (hall 8 (by decide))
    clear hall h0 h1 h2 h3 h4 h5 h6 h7 h8 hz0 F
    have F := HF
    clear HF
    simp only [putAll, z1, z2]
    go_wp2_with (first | go_skip | ((with_reducible apply fL F); exact rfl; exact rfl; (exact tL); (exact tR3)) | ((with_reducible apply fA_int F); exact rfl) | ((with_reducible apply fA_rat F); exact rfl) | ((with_reducible apply fX_rat F); exact rfl; exact rfl) | ((with_reducible apply fS F); exact rfl; exact rfl; exact rfl; (exact tL); (exact tR3); (exact tS2); clear F; intro W F; simp only [z7, z8] at F) | ((with_reducible apply fB_rat0); exact rfl))
    exact bodyPost_ret (res_cs rfl rfl rfl (Fr.get F tL) (rowRC _ _)) rfl ⟨rfl, F.below⟩
  · have hr := HR.out
    rw [if_pos he] at hr
    subst hr
    clear HR HP
    go_wp2_with (first | go_skip | ((with_reducible apply fL F); exact rfl; exact rfl; (exact tL); (exact tR3)) | ((with_reducible apply fA_int F); exact rfl) | ((with_reducible apply fA_rat F); exact rfl) | ((with_reducible apply fX_rat F); exact rfl; exact rfl) | ((with_reducible apply fS F); exact rfl; exact rfl; exact rfl; (exact tL); (exact tR3); (exact tS2); clear F; intro W F; simp only [z7, z8] at F) | ((with_reducible apply fB_rat0); exact rfl))
    exact bodyPost_ret (res_cs rfl rfl rfl (Fr.get F tL) (rowRC _ _)) rfl ⟨rfl, F.below⟩
end
section
open Go.RowKit
set_option maxHeartbeats 4000000
theorem qnt_b (v : Prop) [Decidable v] (n d p m : Int) : (qntR v n d p m).1.natAbs < bp 32 ∧ (qntR v n d p m).2.1.natAbs < bp 32 := by
  have k0 := bp_pos 32
  unfold qntR
  dsimp only
  split
  · exact ⟨by simpa using k0, by simpa using k0⟩
  · exact mkR_b _ _
set_option maxRecDepth 100000 in
theorem decimalExact_any {x : Bool} {a : Nat} {y : Bool} {b : Nat} (ha : a < bp 32) (hb : b < bp 32) (p m : Int) {w : World} (ht : Tab w) : Calls Tryz.prog 6 #[.agg (ratC x a y b), .int .i64 p, .int .i64 m] w (RetB (.bool true) w) := by
  have F := Fr.start w
  have HT := Lib.hid ht
  clear ht
  obtain ⟨z, e, hz, g1, g2⟩ : ∃ z e : Int, z.natAbs < bp 32 ∧ (∀ w, Calls Tryz.prog 25 #[.agg (ratC x a y b), .int .i64 p, .int .i64 m] w (RetB (.tuple #[.agg (IC z), .int .i64 e]) w)) ∧ (∀ w, Calls Tryz.prog 26 #[.agg (ratC x a y b), .int .i64 p, .int .i64 m] w (RetB (.tuple #[.agg (IC z), .int .i64 e]) w)) :=
    ⟨_, _, Nat.lt_of_lt_of_le rnd_lt (bp_le (by decide)), fun w => round_any ha hb rfl w, fun w => rround_any ha hb rfl w⟩
  obtain ⟨k, e2, g3, g4⟩ : ∃ z e : Int, (∀ w, Calls Tryz.prog 17 #[.agg (ratC x a y b), .int .i64 p, .int .i64 m] w (RetB (.tuple #[.int .i64 z, .int .i64 e]) w)) ∧ (∀ w, Calls Tryz.prog 27 #[.agg (ratC x a y b), .int .i64 p, .int .i64 m] w (RetB (.tuple #[.int .i64 z, .int .i64 e]) w)) :=
    ⟨_, _, fun w => roundInt_any ha hb rfl w, fun w => rroundInt_any ha hb rfl w⟩
  obtain ⟨n, d, e3, hn, hd, g5, g6⟩ : ∃ n d e : Int, n.natAbs < bp 32 ∧ d.natAbs < bp 32 ∧ (∀ w, Calls Tryz.prog 28 #[.agg (ratC x a y b), .int .i64 p, .int .i64 m] w (RetB (.tuple #[.agg (RC n d), .int .i64 e]) w)) ∧ (∀ w, Calls Tryz.prog 29 #[.agg (ratC x a y b), .int .i64 p, .int .i64 m] w (RetB (.tuple #[.agg (RC n d), .int .i64 e]) w)) :=
    ⟨_, _, _, (qnt_b _ _ _ p m).1, (qnt_b _ _ _ p m).2, fun w => quantize_any ha hb rfl w, fun w => rquantize_any ha hb rfl w⟩
  obtain ⟨c, e4, g7, g8⟩ : ∃ (c : Bool) (e : Int), (∀ w, Calls Tryz.prog 30 #[.agg (ratC x a y b), .int .i64 p] w (RetB (.tuple #[.bool c, .int .i64 e]) w)) ∧ (∀ w, Calls Tryz.prog 31 #[.agg (ratC x a y b), .int .i64 p] w (RetB (.tuple #[.bool c, .int .i64 e]) w)) :=
    ⟨_, _, fun w => exact_any ha hb rfl w, fun w => rexact_any ha hb rfl w⟩
  have q1 := fun w => eq_IC 9997 hz hz w
  have q2 := fun w => eq_RC hn hd hn hd w
  clear hz hn hd ha hb
  have gk := fun W L (F : Fr w W L) => known_any (HT.out.next F.below)
  go_enter Tryz.func6, Tryz.ntmps6
  go_wp2_with (first | go_skip | ((with_reducible apply fL F); exact rfl; exact rfl; (exact tL); (exact tR3)) | ((with_reducible apply fA_int F); exact rfl) | ((with_reducible apply fA_rat F); exact rfl) | ((with_reducible apply fX_rat F); exact rfl; exact rfl) | ((with_reducible apply fS F); exact rfl; exact rfl; exact rfl; (exact tL); (exact tR3); (exact tS2); clear F; intro W F; simp only [z7, z8] at F))
  (clear F; intro b3 W F; try simp only [Act.put, z6, z1, z2])
  go_wp2_with (first | go_skip | ((go_at_call 25); (with_reducible refine fr_call F (g1 _) ?_); (clear F; intro W F); (try dsimp only)) | ((with_reducible apply fL F); exact rfl; exact rfl; (exact tL); (exact tR3)) | ((with_reducible apply fA_int F); exact rfl) | ((with_reducible apply fA_rat F); exact rfl) | ((with_reducible apply fX_rat F); exact rfl; exact rfl) | ((with_reducible apply fS F); exact rfl; exact rfl; exact rfl; (exact tL); (exact tR3); (exact tS2); clear F; intro W F; simp only [z7, z8] at F))
  (clear F; intro b7 W F; try simp only [Act.put, z6, z1, z2])
  go_wp2_with (first | go_skip | ((go_at_call 26); (with_reducible refine fr_call F (g2 _) ?_); (clear F; intro W F); (try dsimp only)) | ((with_reducible apply fL F); exact rfl; exact rfl; (exact tL); (exact tR3)) | ((with_reducible apply fA_int F); exact rfl) | ((with_reducible apply fA_rat F); exact rfl) | ((with_reducible apply fX_rat F); exact rfl; exact rfl) | ((with_reducible apply fS F); exact rfl; exact rfl; exact rfl; (exact tL); (exact tR3); (exact tS2); clear F; intro W F; simp only [z7, z8] at F))
  (clear F; intro b9 W F; try simp only [Act.put, z6, z1, z2])
  go_wp2_with (first | go_skip | ((go_at_call 17); (with_reducible refine fr_call F (g3 _) ?_); (clear F; intro W F); (try dsimp only)) | ((go_at_call 27); (with_reducible refine fr_call F (g4 _) ?_); (clear F; intro W F); (try dsimp only)) | ((go_at_call 28); (with_reducible refine fr_call F (g5 _) ?_); (clear F; intro W F); (try dsimp only)) | ((with_reducible apply fL F); exact rfl; exact rfl; (exact tL); (exact tR3)) | ((with_reducible apply fA_int F); exact rfl) | ((with_reducible apply fA_rat F); exact rfl) | ((with_reducible apply fX_rat F); exact rfl; exact rfl) | ((with_reducible apply fS F); exact rfl; exact rfl; exact rfl; (exact tL); (exact tR3); (exact tS2); clear F; intro W F; simp only [z7, z8] at F))
  (clear F; intro b15 W F; try simp only [Act.put, z6, z1, z2])
  go_wp2_with (first | go_skip | ((go_at_call 29); (with_reducible refine fr_call F (g6 _) ?_); (clear F; intro W F); (try dsimp only)) | ((with_reducible apply fL F); exact rfl; exact rfl; (exact tL); (exact tR3)) | ((with_reducible apply fA_int F); exact rfl) | ((with_reducible apply fA_rat F); exact rfl) | ((with_reducible apply fX_rat F); exact rfl; exact rfl) | ((with_reducible apply fS F); exact rfl; exact rfl; exact rfl; (exact tL); (exact tR3); (exact tS2); clear F; intro W F; simp only [z7, z8] at F))
  (clear F; intro b17 W F; try simp only [Act.put, z6, z1, z2])
  go_wp2_with (first | go_skip | ((go_at_call 30); (with_reducible refine fr_call F (g7 _) ?_); (clear F; intro W F); (try dsimp only)) | ((go_at_call 31); (with_reducible refine fr_call F (g8 _) ?_); (clear F; intro W F); (try dsimp only)) | ((go_at_call 18); (with_reducible refine fr_call F (gk _ _ F) ?_); (clear F; intro W F); (try dsimp only)) | ((with_reducible apply fL F); exact rfl; exact rfl; (exact tL); (exact tR3)) | ((with_reducible apply fA_int F); exact rfl) | ((with_reducible apply fA_rat F); exact rfl) | ((with_reducible apply fX_rat F); exact rfl; exact rfl) | ((with_reducible apply fS F); exact rfl; exact rfl; exact rfl; (exact tL); (exact tR3); (exact tS2); clear F; intro W F; simp only [z7, z8] at F))
  go_ret
  exact ⟨rfl, F.below⟩
end
end Go.Proofs.YtpaodheilchfnaaGreatDoor
