/- What the laws lean on. -/
import Derived.Test.YtpaodheilchfnaaGreatDoorPz7
import Derived.Test.YtpaodheilchfnaaGreatDoorPz14
import Derived.Test.YtpaodheilchfnaaGreatDoorPz22
namespace Go.Proofs.YtpaodheilchfnaaGreatDoor
set_option linter.unusedVariables false
set_option linter.unusedSimpArgs false
section
open Go.RowKit
set_option maxHeartbeats 2000000
def qntR (v : Prop) [Decidable v] (n d p m : Int) : Int × Int × Int :=
  let r := rndR v n d p m
  if r.2 ≠ 0 then (0, 0, r.2) else mkR r.1 ((10 ^ p.toNat : Nat) : Int)
theorem rnd_places {v : Prop} [Decidable v] {n d p m : Int} (h : (rndR v n d p m).2 = 0) : v ∧ 0 ≤ p ∧ p ≤ 9 ∧ 1 ≤ m ∧ m ≤ 6 := by
  unfold rndR at h
  split at h
  · exact absurd h (by decide)
  · rename_i hv
    split at h
    · exact absurd h (by decide)
    · split at h
      · exact absurd h (by decide)
      · exact ⟨by rwa [Classical.not_not] at hv, by omega, by omega, by omega, by omega⟩
set_option maxRecDepth 100000 in
theorem quantize_any {x : Bool} {a : Nat} {y : Bool} {b : Nat} (ha : a < bp 32) (hb : b < bp 32) {p m : Int} {r : Int × Int × Int} (hr : qntR (okR x a y b) (sZ x a) (sZ y b) p m = r) (w : World) : Calls Tryz.prog 28 #[.agg (ratC x a y b), .int .i64 p, .int .i64 m] w (RetB (.tuple #[.agg (RC r.1 r.2.1), .int .i64 r.2.2]) w) := by
  have F := Fr.start w
  have hl := rnd_lt (x := x) (a := a) (y := y) (b := b) (p := p) (m := m)
  have hp := rnd_places (v := okR x a y b) (n := sZ x a) (d := sZ y b) (p := p) (m := m)
  unfold qntR at hr
  obtain ⟨s, hs⟩ : ∃ s, rndR (okR x a y b) (sZ x a) (sZ y b) p m = s := ⟨_, rfl⟩
  have g1 := fun w => round_any ha hb hs w
  rw [hs] at hr hl hp
  obtain ⟨z, e⟩ := s
  dsimp only at hr hl g1 hp
  have HR := Lib.hid hr
  have HP := Lib.hid hp
  clear hr hs ha hb hp
  go_enter Tryz.func28, Tryz.ntmps28
  go_wp2_with (first | go_skip | ((with_reducible apply fL F); exact rfl; exact rfl; (exact tL); (exact tR2)) | ((with_reducible apply fA_int F); exact rfl) | ((with_reducible apply fA_rat F); exact rfl) | ((with_reducible apply fX_rat F); exact rfl; exact rfl) | ((with_reducible apply fS F); exact rfl; exact rfl; exact rfl; (exact tL); (exact tR2); (exact tS2); clear F; intro W F; simp only [z7, z8] at F) | ((with_reducible apply fB_rat0); exact rfl))
  (clear F; intro b3 W F; try simp only [Act.put, z6, z1, z2])
  go_wp2_with (first | go_skip | ((with_reducible apply fL F); exact rfl; exact rfl; (exact tL); (exact tR2)) | ((with_reducible apply fA_int F); exact rfl) | ((with_reducible apply fA_rat F); exact rfl) | ((with_reducible apply fX_rat F); exact rfl; exact rfl) | ((with_reducible apply fS F); exact rfl; exact rfl; exact rfl; (exact tL); (exact tR2); (exact tS2); clear F; intro W F; simp only [z7, z8] at F) | ((with_reducible apply fB_rat0); exact rfl))
  (clear F; intro b6 W F; try simp only [Act.put, z6, z1, z2])
  go_wp2_with (first | go_skip | ((go_at_call 25); (with_reducible refine fr_call F (g1 _) ?_); (clear F; intro W F); (try dsimp only)) | ((with_reducible apply fL F); exact rfl; exact rfl; (exact tL); (exact tR2)) | ((with_reducible apply fA_int F); exact rfl) | ((with_reducible apply fA_rat F); exact rfl) | ((with_reducible apply fX_rat F); exact rfl; exact rfl) | ((with_reducible apply fS F); exact rfl; exact rfl; exact rfl; (exact tL); (exact tR2); (exact tS2); clear F; intro W F; simp only [z7, z8] at F) | ((with_reducible apply fB_rat0); exact rfl))
  (clear F; intro b8 W F; try simp only [Act.put, z6, z1, z2])
  by_cases he : e = 0
  · have hr := HR.out
    obtain ⟨-, p0, p9, -, -⟩ := HP.out he
    rw [if_neg (by rw [Classical.not_not]; exact he)] at hr
    subst he
    clear HR HP
    obtain ⟨q, rfl⟩ : ∃ q : Nat, p = (q : Int) := ⟨p.toNat, by omega⟩
    have hq : q ≤ 9 := by omega
    rw [Int.toNat_natCast] at hr
    have ht := ten_le hq
    have g2 := fun w => power_any hq w
    obtain ⟨t, htt⟩ : ∃ t : Nat, 10 ^ q = t := ⟨_, rfl⟩
    rw [htt] at g2 ht hr
    have g3 := fun w => fromZ (n := (t : Int)) (by omega) (by omega) w
    have hq2 : (t : Int).natAbs < bp 32 := Nat.lt_of_lt_of_le (show (t : Int).natAbs < bp 2 by unfold bp; omega) (bp_le (by decide))
    have g4 := fun w => makeZ (Nat.lt_of_lt_of_le hl (bp_le (by decide))) hq2 hr w
    obtain ⟨rn, rd, re⟩ := r
    dsimp only at g4
    clear hr hl ht htt hq2 p0 p9 hq
    go_wp2_with (first | go_skip | ((with_reducible apply fL F); exact rfl; exact rfl; (exact tL); (exact tR2)) | ((with_reducible apply fA_int F); exact rfl) | ((with_reducible apply fA_rat F); exact rfl) | ((with_reducible apply fX_rat F); exact rfl; exact rfl) | ((with_reducible apply fS F); exact rfl; exact rfl; exact rfl; (exact tL); (exact tR2); (exact tS2); clear F; intro W F; simp only [z7, z8] at F) | ((with_reducible apply fB_rat0); exact rfl))
    try simp only [Act.put, z6, z1, z2]
    refine wp_region_slots mixP [7, 21, 22, 23, 24, 25, 26, 27] (fun l mm W => ∃ (s7 s21 s22 s23 s24 s25 s26 s27 : Value) (c_b6 : Array Value), mm = [s7, s21, s22, s23, s24, s25, s26, s27] ∧ (l.getD 0 false = true → s21 = .agg (IC z)) ∧ (l.getD 1 false = true → s22 = .int .i64 (q : Int)) ∧ (l.getD 2 false = true → s23 = .int .i64 (t : Int)) ∧ (l.getD 3 false = true → s24 = .agg (IC (t : Int))) ∧ (l.getD 4 false = true → s25 = .tuple #[.agg (RC rn rd), .int .i64 re]) ∧ (l.getD 5 false = true → s26 = .agg (RC rn rd)) ∧ (l.getD 6 false = true → s27 = .int .i64 re) ∧ (l.getD 7 false = true → c_b6 = RC rn rd) ∧ (l.getD 8 false = true → s7 = .int .i64 re) ∧ c_b6.size = (RC rn rd).size ∧ Fr w W [(b8, IC z, 29), (b6, c_b6, 31), (b3, ratC x a y b, 31)]) (by kernel_rfl) rfl ?_ ?_ ?_
    · exact ⟨_, _, _, _, _, _, _, _, (RC 0 0), rfl, nf, nf, nf, nf, nf, nf, nf, nf, nf, by exact tS2, F.drew⟩
    · rintro listed mm W ii hi hsz hoff ⟨s7, s21, s22, s23, s24, s25, s26, s27, c_b6, rfl, h0, h1, h2, h3, h4, h5, h6, h7, h8, hz0, HF⟩ hd
      have hc : ii = 0 ∨ ii = 1 ∨ ii = 2 ∨ ii = 3 ∨ ii = 4 ∨ ii = 5 ∨ ii = 6 ∨ ii = 7 ∨ ii = 8 := by
        have hi2 : ii < 9 := hi
        omega
      have hsz2 : listed.size = 9 := hsz
      clear hi hsz
      rcases hc with rfl | rfl | rfl | rfl | rfl | rfl | rfl | rfl | rfl
      · refine wpOp_want rfl rfl (fun K hK => ?_)
        simp only [putAll, z1, z2, z3, z4, z5]
        with_reducible apply gL HF
        · exact rfl
        · (exact tL)
        · (first | (exact tR2))
        go_simp
        exact hK _ _ ⟨[s7, (.agg (IC z)), s22, s23, s24, s25, s26, s27], by simp only [putAll, z1, z2], s7, (.agg (IC z)), s22, s23, s24, s25, s26, s27, c_b6, rfl, fun _ => rfl, lk h1, lk h2, lk h3, lk h4, lk h5, lk h6, lk h7, lk h8, hz0, HF⟩
      · refine wpOp_want rfl rfl (fun K hK => ?_)
        simp only [putAll, z1, z2, z3, z4, z5]
        refine ⟨?_⟩
        go_simp
        exact hK _ _ ⟨[s7, s21, (.int .i64 (q : Int)), s23, s24, s25, s26, s27], by simp only [putAll, z1, z2], s7, s21, (.int .i64 (q : Int)), s23, s24, s25, s26, s27, c_b6, rfl, lk h0, fun _ => rfl, lk h2, lk h3, lk h4, lk h5, lk h6, lk h7, lk h8, hz0, HF⟩
      · have d1 := h1 (hd 1 (by kernel_rfl))
        obtain rfl := d1
        refine wpOp_want rfl rfl (fun K hK => ?_)
        simp only [putAll, z1, z2, z3, z4, z5]
        refine ⟨?_⟩
        go_simp
        with_reducible refine fr_call HF (g2 _) ?_
        clear HF
        intro W HF
        (try dsimp only)
        exact hK _ _ ⟨[s7, s21, (.int .i64 (q : Int)), (.int .i64 (t : Int)), s24, s25, s26, s27], by simp only [putAll, z1, z2], s7, s21, (.int .i64 (q : Int)), (.int .i64 (t : Int)), s24, s25, s26, s27, c_b6, rfl, lk h0, lk h1, fun _ => rfl, lk h3, lk h4, lk h5, lk h6, lk h7, lk h8, hz0, HF⟩
      · have d2 := h2 (hd 2 (by kernel_rfl))
        obtain rfl := d2
        refine wpOp_want rfl rfl (fun K hK => ?_)
        simp only [putAll, z1, z2, z3, z4, z5]
        refine ⟨?_⟩
        go_simp
        with_reducible refine fr_call HF (g3 _) ?_
        clear HF
        intro W HF
        (try dsimp only)
        exact hK _ _ ⟨[s7, s21, s22, (.int .i64 (t : Int)), (.agg (IC (t : Int))), s25, s26, s27], by simp only [putAll, z1, z2], s7, s21, s22, (.int .i64 (t : Int)), (.agg (IC (t : Int))), s25, s26, s27, c_b6, rfl, lk h0, lk h1, lk h2, fun _ => rfl, lk h4, lk h5, lk h6, lk h7, lk h8, hz0, HF⟩
      · have d0 := h0 (hd 0 (by kernel_rfl))
        have d3 := h3 (hd 3 (by kernel_rfl))
        obtain rfl := d0
        obtain rfl := d3
        refine wpOp_want rfl rfl (fun K hK => ?_)
        simp only [putAll, z1, z2, z3, z4, z5]
        refine ⟨?_⟩
        go_simp
        with_reducible refine fr_call HF (g4 _) ?_
        clear HF
        intro W HF
        (try dsimp only)
        exact hK _ _ ⟨[s7, (.agg (IC z)), s22, s23, (.agg (IC (t : Int))), (.tuple #[.agg (RC rn rd), .int .i64 re]), s26, s27], by simp only [putAll, z1, z2], s7, (.agg (IC z)), s22, s23, (.agg (IC (t : Int))), (.tuple #[.agg (RC rn rd), .int .i64 re]), s26, s27, c_b6, rfl, lk h0, lk h1, lk h2, lk h3, fun _ => rfl, lk h5, lk h6, lk h7, lk h8, hz0, HF⟩
      · have d4 := h4 (hd 4 (by kernel_rfl))
        obtain rfl := d4
        refine wpOp_want rfl rfl (fun K hK => ?_)
        simp only [putAll, z1, z2, z3, z4, z5]
        refine ⟨?_⟩
        go_simp
        exact hK _ _ ⟨[s7, s21, s22, s23, s24, (.tuple #[.agg (RC rn rd), .int .i64 re]), (.agg (RC rn rd)), s27], by simp only [putAll, z1, z2], s7, s21, s22, s23, s24, (.tuple #[.agg (RC rn rd), .int .i64 re]), (.agg (RC rn rd)), s27, c_b6, rfl, lk h0, lk h1, lk h2, lk h3, lk h4, fun _ => rfl, lk h6, lk h7, lk h8, hz0, HF⟩
      · have d4 := h4 (hd 4 (by kernel_rfl))
        obtain rfl := d4
        refine wpOp_want rfl rfl (fun K hK => ?_)
        simp only [putAll, z1, z2, z3, z4, z5]
        refine ⟨?_⟩
        go_simp
        exact hK _ _ ⟨[s7, s21, s22, s23, s24, (.tuple #[.agg (RC rn rd), .int .i64 re]), s26, (.int .i64 re)], by simp only [putAll, z1, z2], s7, s21, s22, s23, s24, (.tuple #[.agg (RC rn rd), .int .i64 re]), s26, (.int .i64 re), c_b6, rfl, lk h0, lk h1, lk h2, lk h3, lk h4, lk h5, fun _ => rfl, lk h7, lk h8, hz0, HF⟩
      · have d5 := h5 (hd 5 (by kernel_rfl))
        obtain rfl := d5
        refine wpOp_want rfl rfl (fun K hK => ?_)
        simp only [putAll, z1, z2, z3, z4, z5]
        with_reducible apply gS HF
        · exact rfl
        · exact rfl
        · (exact tL)
        · (first | (exact tR2))
        · first | exact hz0 | exact tS2
        clear HF
        intro W HF
        simp only [z7, z8] at HF
        go_simp
        exact hK _ _ ⟨[s7, s21, s22, s23, s24, s25, (.agg (RC rn rd)), s27], by simp only [putAll, z1, z2], s7, s21, s22, s23, s24, s25, (.agg (RC rn rd)), s27, (RC rn rd), rfl, lk h0, lk h1, lk h2, lk h3, lk h4, lk h5, lk h6, fun _ => rfl, lk h8, rfl, HF⟩
      · have d6 := h6 (hd 6 (by kernel_rfl))
        obtain rfl := d6
        refine wpOp_want rfl rfl (fun K hK => ?_)
        simp only [putAll, z1, z2, z3, z4, z5]
        refine ⟨?_⟩
        go_simp
        exact hK _ _ ⟨[(.int .i64 re), s21, s22, s23, s24, s25, s26, (.int .i64 re)], by simp only [putAll, z1, z2], (.int .i64 re), s21, s22, s23, s24, s25, s26, (.int .i64 re), c_b6, rfl, lk h0, lk h1, lk h2, lk h3, lk h4, lk h5, lk h6, lk h7, fun _ => rfl, hz0, HF⟩
    rintro listed mm W ⟨s7, s21, s22, s23, s24, s25, s26, s27, c_b6, rfl, h0, h1, h2, h3, h4, h5, h6, h7, h8, hz0, HF⟩ hall
    obtain rfl := h0 (hall 0 (by decide))
    obtain rfl := h1 (hall 1 (by decide))
    obtain rfl := h2 (hall 2 (by decide))
    obtain rfl := h3 (hall 3 (by decide))
    obtain rfl := h4 (hall 4 (by decide))
    obtain rfl := h5 (hall 5 (by decide))
    obtain rfl := h6 (hall 6 (by decide))
    rw [h7 (hall 7 (by decide))] at HF
    obtain rfl := h8 (hall 8 (by decide))
    clear hall h0 h1 h2 h3 h4 h5 h6 h7 h8 hz0 F
    have F := HF
    clear HF
    simp only [putAll, z1, z2]
    go_wp2_with (first | go_skip | ((with_reducible apply fL F); exact rfl; exact rfl; (exact tL); (exact tR2)) | ((with_reducible apply fA_int F); exact rfl) | ((with_reducible apply fA_rat F); exact rfl) | ((with_reducible apply fX_rat F); exact rfl; exact rfl) | ((with_reducible apply fS F); exact rfl; exact rfl; exact rfl; (exact tL); (exact tR2); (exact tS2); clear F; intro W F; simp only [z7, z8] at F) | ((with_reducible apply fB_rat0); exact rfl))
    exact bodyPost_ret (res_cs rfl rfl rfl (Fr.get F tL) (rowRC _ _)) rfl ⟨rfl, F.below⟩
  · have hr := HR.out
    rw [if_pos he] at hr
    subst hr
    clear HR HP
    go_wp2_with (first | go_skip | ((with_reducible apply fL F); exact rfl; exact rfl; (exact tL); (exact tR2)) | ((with_reducible apply fA_int F); exact rfl) | ((with_reducible apply fA_rat F); exact rfl) | ((with_reducible apply fX_rat F); exact rfl; exact rfl) | ((with_reducible apply fS F); exact rfl; exact rfl; exact rfl; (exact tL); (exact tR2); (exact tS2); clear F; intro W F; simp only [z7, z8] at F) | ((with_reducible apply fB_rat0); exact rfl))
    exact bodyPost_ret (res_cs rfl rfl rfl (Fr.get F tL) (rowRC _ _)) rfl ⟨rfl, F.below⟩
set_option maxRecDepth 100000 in
theorem exact_any {x : Bool} {a : Nat} {y : Bool} {b : Nat} (ha : a < bp 32) (hb : b < bp 32) {p : Int} {r : Bool × Int} (hr : exR (okR x a y b) (sZ x a) (sZ y b) p = r) (w : World) : Calls Tryz.prog 30 #[.agg (ratC x a y b), .int .i64 p] w (RetB (.tuple #[.bool r.1, .int .i64 r.2]) w) := by
  have F := Fr.start w
  obtain ⟨e, he⟩ : ∃ e, chkE (okR x a y b) p = e := ⟨_, rfl⟩
  have g1 := fun w => check_any ha hb he w
  unfold exR at hr
  have hp := chkE_ok (v := okR x a y b) (p := p)
  rw [he] at hr hp
  have HR := Lib.hid hr
  have HP := Lib.hid hp
  clear hr he ha hb hp
  go_enter Tryz.func30, Tryz.ntmps30
  go_wp2_with (first | go_skip | ((with_reducible apply fL F); exact rfl; exact rfl; (exact tL); (exact tR2)) | ((with_reducible apply fA_int F); exact rfl) | ((with_reducible apply fX_rat F); exact rfl; exact rfl) | ((with_reducible apply fS F); exact rfl; exact rfl; exact rfl; (exact tL); (exact tR2); (exact tS2); clear F; intro W F; simp only [z7, z8] at F))
  (clear F; intro b2 W F; try simp only [Act.put, z6, z1, z2])
  by_cases he : e = 0
  · have hr := HR.out
    obtain ⟨hv, p0, p9⟩ := HP.out he
    rw [if_neg (by rw [Classical.not_not]; exact he)] at hr
    subst he
    clear HR HP
    obtain ⟨n, d, ⟨h1, h2, h3⟩, hn, hd, hd0⟩ := okR_ints hv
    rw [h2, h3] at hr
    obtain ⟨q, rfl⟩ : ∃ q : Nat, p = (q : Int) := ⟨p.toNat, by omega⟩
    have hq : q ≤ 9 := by omega
    rw [Int.toNat_natCast] at hr
    have g2 := fun w => scaledZ hn hd (show d ≠ 0 by omega) hq w
    have hN := b_ten hn hq
    obtain ⟨N, hNN⟩ : ∃ N, n * ((10 ^ q : Nat) : Int) = N := ⟨_, rfl⟩
    simp only [hNN] at hr g2 hN
    have hvv : (N % d).natAbs < bp 15 := by
      have k1 := Int.emod_nonneg N (show d ≠ 0 by omega)
      have k2 := Int.emod_lt_of_pos N hd0
      omega
    obtain ⟨u, huu⟩ : ∃ u, N / d = u := ⟨_, rfl⟩
    obtain ⟨v, hv2⟩ : ∃ v, N % d = v := ⟨_, rfl⟩
    rw [huu, hv2] at g2
    rw [hv2] at hr hvv
    rw [h1] at g1 F
    have g3 := fun w => signZ (b15 hvv) w
    have hv0 : decide (v = 0) = (v.sign == 0) := by
      rw [Bool.eq_iff_iff, decide_eq_true_eq, beq_iff_eq]
      exact Int.sign_eq_zero_iff_zero.symm
    rw [hv0] at hr
    obtain ⟨t, ht⟩ : ∃ t, v.sign = t := ⟨_, rfl⟩
    rw [ht] at g3 hr
    subst hr
    clear hv0 ht hvv hv2 huu hN hNN hn hd hd0 h1 h2 h3 hv p0 p9 hq
    go_wp2_with (first | go_skip | ((go_at_call 68); (with_reducible refine fr_call F (g1 _) ?_); (clear F; intro W F); (try dsimp only)) | ((go_at_call 69); (with_reducible refine fr_call F (g2 _) ?_); (clear F; intro W F); (try dsimp only)) | ((with_reducible apply fL F); exact rfl; exact rfl; (exact tL); (exact tR2)) | ((with_reducible apply fA_int F); exact rfl) | ((with_reducible apply fX_rat F); exact rfl; exact rfl) | ((with_reducible apply fS F); exact rfl; exact rfl; exact rfl; (exact tL); (exact tR2); (exact tS2); clear F; intro W F; simp only [z7, z8] at F))
    (clear F; intro b7 W F; try simp only [Act.put, z6, z1, z2])
    go_wp2_with (first | go_skip | ((with_reducible apply fL F); exact rfl; exact rfl; (exact tL); (exact tR2)) | ((with_reducible apply fA_int F); exact rfl) | ((with_reducible apply fX_rat F); exact rfl; exact rfl) | ((with_reducible apply fS F); exact rfl; exact rfl; exact rfl; (exact tL); (exact tR2); (exact tS2); clear F; intro W F; simp only [z7, z8] at F))
    (clear F; intro b8 W F; try simp only [Act.put, z6, z1, z2])
    go_wp2_with (first | go_skip | ((go_at_call 72); (with_reducible refine fr_call F (g3 _) ?_); (clear F; intro W F); (try dsimp only)) | ((with_reducible apply fL F); exact rfl; exact rfl; (exact tL); (exact tR2)) | ((with_reducible apply fA_int F); exact rfl) | ((with_reducible apply fX_rat F); exact rfl; exact rfl) | ((with_reducible apply fS F); exact rfl; exact rfl; exact rfl; (exact tL); (exact tR2); (exact tS2); clear F; intro W F; simp only [z7, z8] at F))
    go_ret2
    exact ⟨rfl, F.below⟩
  · have hr := HR.out
    rw [if_pos he] at hr
    subst hr
    clear HR HP
    go_wp2_with (first | go_skip | ((go_at_call 68); (with_reducible refine fr_call F (g1 _) ?_); (clear F; intro W F); (try dsimp only)) | ((with_reducible apply fL F); exact rfl; exact rfl; (exact tL); (exact tR2)) | ((with_reducible apply fA_int F); exact rfl) | ((with_reducible apply fX_rat F); exact rfl; exact rfl) | ((with_reducible apply fS F); exact rfl; exact rfl; exact rfl; (exact tL); (exact tR2); (exact tS2); clear F; intro W F; simp only [z7, z8] at F))
    go_ret2
    exact ⟨rfl, F.below⟩
end
end Go.Proofs.YtpaodheilchfnaaGreatDoor
