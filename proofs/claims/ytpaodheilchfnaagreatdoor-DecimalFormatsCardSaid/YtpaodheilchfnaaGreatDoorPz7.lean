/- What the laws lean on. -/
import Derived.Test.YtpaodheilchfnaaGreatDoorPz6
namespace Go.Proofs.YtpaodheilchfnaaGreatDoor
set_option linter.unusedVariables false
set_option linter.unusedSimpArgs false
section
open Go.RowKit
set_option maxHeartbeats 4000000
theorem u32_and1 {x : Nat} (hx : x < 4294967296) : bits .and .u32 (x : Int) 1 = ((x % 2 : Nat) : Int) := by
  have h := bits_mask .u32 32 (by decide) (fun n h0 h1 => by rw [IntKind.wrap_u32]; omega) 1 (by decide) (x : Int) (by omega) (by omega)
  rw [show (2 : Int) ^ 1 - 1 = 1 from rfl, show (2 : Int) ^ 1 = 2 from rfl] at h
  rw [h]
  omega
theorem wrap_pred {D : Nat} (h : D ≤ 1024) : RowKit.wrap64 ((D : Int) - 1) = (D : Int) - 1 := by rw [RowKit.wrap64]; omega
theorem meas_down {i : Nat} (h : i ≤ 1024) : (intOf (Value.int .i64 (RowKit.wrap64 ((i : Int) - 1))) + 1).toNat < (intOf (Value.int .i64 (i : Int)) + 1).toNat := by
  rw [wrap_pred h]
  simp only [intOf]
  omega
theorem meas_down2 (i : Nat) : (intOf (Value.int .i64 ((i : Int) - 1)) + 1).toNat < (intOf (Value.int .i64 (i : Int)) + 1).toNat := by
  simp only [intOf]
  omega
theorem built_intM (m : Nat) : Tryz.prog.built 29 [(1, .agg (limA 32 m))] = some (intC false m) := by kernel_rfl
theorem gB_intm {a : Act} {W : World} {K : Act → World → Prop} {Q : Exit → Act → World → Prop} {x : Operand} {dst : Option Tmp} {ty : TypeId} {pos : String} {af : Array Edge} {gd : Option (Nat × Bool)} {m : Nat} (hx : a.eval x = .agg (limA 32 m)) (hk : K (a.put dst (.agg (intC false m))) W) : OpW Tryz.prog ⟨dst, .build 29 #[(1, x)], ty, pos, af, gd⟩ a W K Q :=
  op_build _ _ rfl (by simp only [List.map_toArray, List.map_cons, List.map_nil, hx]; exact built_intM m) hk
set_option maxRecDepth 100000 in
theorem rdivide_any {a b : Nat} (la : a < bp 32) (lb : b < bp 32) (hb : b ≠ 0) {q r : Nat} (hq : a / b = q) (hr : a % b = r) (w : World) : Calls Tryz.prog 126 #[.agg (limA 32 a), .agg (limA 32 b)] w (RetB (.tuple #[.agg (limA 32 q), .agg (limA 32 r)]) w) := by
  have F := Fr.start w
  obtain ⟨na, hna, hua⟩ := used_ex a la
  obtain ⟨nb, hnb, hub⟩ := used_ex b lb
  have g1 := fun w => rlimbs_any la hua w
  have g2 := fun w => rlimbs_any lb hub w
  have HQ := Lib.hid (And.intro hq hr)
  have HU := Lib.hid (And.intro hua hub)
  have HL := Lib.hid (And.intro la lb)
  clear hua hub hq hr la lb
  go_enter Tryz.func126, Tryz.ntmps126
  go_wp2_with (first | go_skip | ((with_reducible apply fL F); exact rfl; exact rfl; (exact tL); (exact tR3)) | ((with_reducible apply fA_arr F); exact rfl) | ((with_reducible apply fX_arr F); exact rfl; exact rfl) | ((with_reducible apply fS F); exact rfl; exact rfl; exact rfl; (exact tL); (exact tR3); (exact tS2); clear F; intro W F; simp only [z7, z8] at F))
  (clear F; intro b2 W F; try simp only [Act.put, z6, z1, z2])
  go_wp2_with (first | go_skip | ((with_reducible apply fL F); exact rfl; exact rfl; (exact tL); (exact tR3)) | ((with_reducible apply fA_arr F); exact rfl) | ((with_reducible apply fX_arr F); exact rfl; exact rfl) | ((with_reducible apply fS F); exact rfl; exact rfl; exact rfl; (exact tL); (exact tR3); (exact tS2); clear F; intro W F; simp only [z7, z8] at F))
  (clear F; intro b3 W F; try simp only [Act.put, z6, z1, z2])
  go_wp2_with (first | go_skip | ((with_reducible apply fL F); exact rfl; exact rfl; (exact tL); (exact tR3)) | ((with_reducible apply fA_arr F); exact rfl) | ((with_reducible apply fX_arr F); exact rfl; exact rfl) | ((with_reducible apply fS F); exact rfl; exact rfl; exact rfl; (exact tL); (exact tR3); (exact tS2); clear F; intro W F; simp only [z7, z8] at F))
  (clear F; intro b4 W F; try simp only [Act.put, z6, z1, z2])
  go_wp2_with (first | go_skip | ((with_reducible apply fL F); exact rfl; exact rfl; (exact tL); (exact tR3)) | ((with_reducible apply fA_arr F); exact rfl) | ((with_reducible apply fX_arr F); exact rfl; exact rfl) | ((with_reducible apply fS F); exact rfl; exact rfl; exact rfl; (exact tL); (exact tR3); (exact tS2); clear F; intro W F; simp only [z7, z8] at F))
  (clear F; intro b5 W F; try simp only [Act.put, z6, z1, z2])
  by_cases h2 : na ≤ 2 ∧ nb ≤ 2
  · have ha := (used_two HU.out.1).1 h2.1
    have hb2 := (used_two HU.out.2).1 h2.2
    have g3 := fun w => rlow_any ha w
    have g4 := fun w => rlow_any hb2 w
    have t1 : decide ((na : Int) ≤ 2) = true := decide_eq_true (by omega)
    have t2 : decide ((nb : Int) ≤ 2) = true := decide_eq_true (by omega)
    have hq1 : q < 18446744073709551616 := by rw [← HQ.out.1]; exact Nat.lt_of_le_of_lt (Nat.div_le_self _ _) ha
    have hr1 : r < 18446744073709551616 := by rw [← HQ.out.2]; exact Nat.lt_of_le_of_lt (Nat.mod_le _ _) ha
    have g5 := fun w => rsmall_any hq1 w
    have g6 := fun w => rsmall_any hr1 w
    have b0 : ((b : Int) == 0) = false := by rw [beq_eq_false_iff_ne]; omega
    have m1 : (a : Int).tdiv (b : Int) = (q : Int) := by rw [← Int.ofNat_tdiv, HQ.out.1]
    have m2 : (a : Int).tmod (b : Int) = (r : Int) := by rw [← Int.ofNat_tmod, HQ.out.2]
    have w1 := wrap64 hq1
    have w2 := wrap64 hr1
    clear h2 ha hb2 hq1 hr1 HU HQ HL hna hnb
    go_wp2_with (first | go_skip | ((go_at_call 130); (with_reducible refine fr_call F (g1 _) ?_); (clear F; intro W F); (try dsimp only)) | ((go_at_call 130); (with_reducible refine fr_call F (g2 _) ?_); (clear F; intro W F); (try dsimp only)) | ((with_reducible apply fL F); exact rfl; exact rfl; (exact tL); (exact tR3)) | ((with_reducible apply fA_arr F); exact rfl) | ((with_reducible apply fX_arr F); exact rfl; exact rfl) | ((with_reducible apply fS F); exact rfl; exact rfl; exact rfl; (exact tL); (exact tR3); (exact tS2); clear F; intro W F; simp only [z7, z8] at F))
    try simp only [Act.put, z6, z1, z2]
    refine wp_region_slots mixP [18, 19, 20, 21, 22, 23, 24, 25, 26, 27, 28, 29] (fun l mm W => ∃ (s18 s19 s20 s21 s22 s23 s24 s25 s26 s27 s28 s29 : Value) (c_b4 c_b5 : Array Value), mm = [s18, s19, s20, s21, s22, s23, s24, s25, s26, s27, s28, s29] ∧ (l.getD 0 false = true → s18 = .agg (limA 32 a)) ∧ (l.getD 1 false = true → s19 = .int .u64 a) ∧ (l.getD 2 false = true → s20 = .agg (limA 32 b)) ∧ (l.getD 3 false = true → s21 = .int .u64 b) ∧ (l.getD 4 false = true → s22 = .int .u64 q) ∧ (l.getD 5 false = true → s23 = .agg (limA 32 q)) ∧ (l.getD 6 false = true → s24 = .agg (limA 32 a)) ∧ (l.getD 7 false = true → s25 = .int .u64 a) ∧ (l.getD 8 false = true → s26 = .agg (limA 32 b)) ∧ (l.getD 9 false = true → s27 = .int .u64 b) ∧ (l.getD 10 false = true → s28 = .int .u64 r) ∧ (l.getD 11 false = true → s29 = .agg (limA 32 r)) ∧ (l.getD 12 false = true → c_b4 = limA 32 q) ∧ (l.getD 13 false = true → c_b5 = limA 32 r) ∧ c_b4.size = (limA 32 q).size ∧ c_b5.size = (limA 32 r).size ∧ Fr w W [(b5, c_b5, 27), (b4, c_b4, 27), (b3, limA 32 b, 27), (b2, limA 32 a, 27)]) (by kernel_rfl) (putAll_self _ _) ?_ ?_ ?_
    · exact ⟨_, _, _, _, _, _, _, _, _, _, _, _, (limA 32 0), (limA 32 0), rfl, nf, nf, nf, nf, nf, nf, nf, nf, nf, nf, nf, nf, nf, nf, by exact tS2, by exact tS2, F.drew⟩
    · rintro listed mm W ii hi hsz hoff ⟨s18, s19, s20, s21, s22, s23, s24, s25, s26, s27, s28, s29, c_b4, c_b5, rfl, h0, h1, h2, h3, h4, h5, h6, h7, h8, h9, h10, h11, h12, h13, hz0, hz1, HF⟩ hd
      have hc := dr_c14 hi
      have hsz2 : listed.size = 14 := hsz
      clear hi hsz
      rcases hc with rfl | rfl | rfl | rfl | rfl | rfl | rfl | rfl | rfl | rfl | rfl | rfl | rfl | rfl
      · refine wpOp_want rfl rfl (fun K hK => ?_)
        simp only [putAll, z1, z2, z3, z4, z5]
        with_reducible apply gL HF
        · exact rfl
        · (exact tL)
        · (first | (exact tR3))
        go_simp
        exact hK _ _ ⟨[(.agg (limA 32 a)), s19, s20, s21, s22, s23, s24, s25, s26, s27, s28, s29], by simp only [putAll, z1, z2], (.agg (limA 32 a)), s19, s20, s21, s22, s23, s24, s25, s26, s27, s28, s29, c_b4, c_b5, rfl, fun _ => rfl, lk h1, lk h2, lk h3, lk h4, lk h5, lk h6, lk h7, lk h8, lk h9, lk h10, lk h11, lk h12, lk h13, hz0, hz1, HF⟩
      · have d0 := h0 (hd 0 (by kernel_rfl))
        obtain rfl := d0
        refine wpOp_want rfl rfl (fun K hK => ?_)
        simp only [putAll, z1, z2, z3, z4, z5]
        refine ⟨?_⟩
        go_simp
        with_reducible refine fr_call HF (g3 _) ?_
        clear HF
        intro W HF
        (try dsimp only)
        exact hK _ _ ⟨[(.agg (limA 32 a)), (.int .u64 a), s20, s21, s22, s23, s24, s25, s26, s27, s28, s29], by simp only [putAll, z1, z2], (.agg (limA 32 a)), (.int .u64 a), s20, s21, s22, s23, s24, s25, s26, s27, s28, s29, c_b4, c_b5, rfl, lk h0, fun _ => rfl, lk h2, lk h3, lk h4, lk h5, lk h6, lk h7, lk h8, lk h9, lk h10, lk h11, lk h12, lk h13, hz0, hz1, HF⟩
      · refine wpOp_want rfl rfl (fun K hK => ?_)
        simp only [putAll, z1, z2, z3, z4, z5]
        with_reducible apply gL HF
        · exact rfl
        · (exact tL)
        · (first | (exact tR3))
        go_simp
        exact hK _ _ ⟨[s18, s19, (.agg (limA 32 b)), s21, s22, s23, s24, s25, s26, s27, s28, s29], by simp only [putAll, z1, z2], s18, s19, (.agg (limA 32 b)), s21, s22, s23, s24, s25, s26, s27, s28, s29, c_b4, c_b5, rfl, lk h0, lk h1, fun _ => rfl, lk h3, lk h4, lk h5, lk h6, lk h7, lk h8, lk h9, lk h10, lk h11, lk h12, lk h13, hz0, hz1, HF⟩
      · have d2 := h2 (hd 2 (by kernel_rfl))
        obtain rfl := d2
        refine wpOp_want rfl rfl (fun K hK => ?_)
        simp only [putAll, z1, z2, z3, z4, z5]
        refine ⟨?_⟩
        go_simp
        with_reducible refine fr_call HF (g4 _) ?_
        clear HF
        intro W HF
        (try dsimp only)
        exact hK _ _ ⟨[s18, s19, (.agg (limA 32 b)), (.int .u64 b), s22, s23, s24, s25, s26, s27, s28, s29], by simp only [putAll, z1, z2], s18, s19, (.agg (limA 32 b)), (.int .u64 b), s22, s23, s24, s25, s26, s27, s28, s29, c_b4, c_b5, rfl, lk h0, lk h1, lk h2, fun _ => rfl, lk h4, lk h5, lk h6, lk h7, lk h8, lk h9, lk h10, lk h11, lk h12, lk h13, hz0, hz1, HF⟩
      · have d1 := h1 (hd 1 (by kernel_rfl))
        have d3 := h3 (hd 3 (by kernel_rfl))
        obtain rfl := d1
        obtain rfl := d3
        refine wpOp_want rfl rfl (fun K hK => ?_)
        simp only [putAll, z1, z2, z3, z4, z5]
        refine ⟨?_⟩
        go_simp
        exact hK _ _ ⟨[s18, (.int .u64 a), s20, (.int .u64 b), (.int .u64 q), s23, s24, s25, s26, s27, s28, s29], by simp only [putAll, z1, z2], s18, (.int .u64 a), s20, (.int .u64 b), (.int .u64 q), s23, s24, s25, s26, s27, s28, s29, c_b4, c_b5, rfl, lk h0, lk h1, lk h2, lk h3, fun _ => rfl, lk h5, lk h6, lk h7, lk h8, lk h9, lk h10, lk h11, lk h12, lk h13, hz0, hz1, HF⟩
      · have d4 := h4 (hd 4 (by kernel_rfl))
        obtain rfl := d4
        refine wpOp_want rfl rfl (fun K hK => ?_)
        simp only [putAll, z1, z2, z3, z4, z5]
        refine ⟨?_⟩
        go_simp
        with_reducible refine fr_call HF (g5 _) ?_
        clear HF
        intro W HF
        (try dsimp only)
        exact hK _ _ ⟨[s18, s19, s20, s21, (.int .u64 q), (.agg (limA 32 q)), s24, s25, s26, s27, s28, s29], by simp only [putAll, z1, z2], s18, s19, s20, s21, (.int .u64 q), (.agg (limA 32 q)), s24, s25, s26, s27, s28, s29, c_b4, c_b5, rfl, lk h0, lk h1, lk h2, lk h3, lk h4, fun _ => rfl, lk h6, lk h7, lk h8, lk h9, lk h10, lk h11, lk h12, lk h13, hz0, hz1, HF⟩
      · refine wpOp_want rfl rfl (fun K hK => ?_)
        simp only [putAll, z1, z2, z3, z4, z5]
        with_reducible apply gL HF
        · exact rfl
        · (exact tL)
        · (first | (exact tR3))
        go_simp
        exact hK _ _ ⟨[s18, s19, s20, s21, s22, s23, (.agg (limA 32 a)), s25, s26, s27, s28, s29], by simp only [putAll, z1, z2], s18, s19, s20, s21, s22, s23, (.agg (limA 32 a)), s25, s26, s27, s28, s29, c_b4, c_b5, rfl, lk h0, lk h1, lk h2, lk h3, lk h4, lk h5, fun _ => rfl, lk h7, lk h8, lk h9, lk h10, lk h11, lk h12, lk h13, hz0, hz1, HF⟩
      · have d6 := h6 (hd 6 (by kernel_rfl))
        obtain rfl := d6
        refine wpOp_want rfl rfl (fun K hK => ?_)
        simp only [putAll, z1, z2, z3, z4, z5]
        refine ⟨?_⟩
        go_simp
        with_reducible refine fr_call HF (g3 _) ?_
        clear HF
        intro W HF
        (try dsimp only)
        exact hK _ _ ⟨[s18, s19, s20, s21, s22, s23, (.agg (limA 32 a)), (.int .u64 a), s26, s27, s28, s29], by simp only [putAll, z1, z2], s18, s19, s20, s21, s22, s23, (.agg (limA 32 a)), (.int .u64 a), s26, s27, s28, s29, c_b4, c_b5, rfl, lk h0, lk h1, lk h2, lk h3, lk h4, lk h5, lk h6, fun _ => rfl, lk h8, lk h9, lk h10, lk h11, lk h12, lk h13, hz0, hz1, HF⟩
      · refine wpOp_want rfl rfl (fun K hK => ?_)
        simp only [putAll, z1, z2, z3, z4, z5]
        with_reducible apply gL HF
        · exact rfl
        · (exact tL)
        · (first | (exact tR3))
        go_simp
        exact hK _ _ ⟨[s18, s19, s20, s21, s22, s23, s24, s25, (.agg (limA 32 b)), s27, s28, s29], by simp only [putAll, z1, z2], s18, s19, s20, s21, s22, s23, s24, s25, (.agg (limA 32 b)), s27, s28, s29, c_b4, c_b5, rfl, lk h0, lk h1, lk h2, lk h3, lk h4, lk h5, lk h6, lk h7, fun _ => rfl, lk h9, lk h10, lk h11, lk h12, lk h13, hz0, hz1, HF⟩
      · have d8 := h8 (hd 8 (by kernel_rfl))
        obtain rfl := d8
        refine wpOp_want rfl rfl (fun K hK => ?_)
        simp only [putAll, z1, z2, z3, z4, z5]
        refine ⟨?_⟩
        go_simp
        with_reducible refine fr_call HF (g4 _) ?_
        clear HF
        intro W HF
        (try dsimp only)
        exact hK _ _ ⟨[s18, s19, s20, s21, s22, s23, s24, s25, (.agg (limA 32 b)), (.int .u64 b), s28, s29], by simp only [putAll, z1, z2], s18, s19, s20, s21, s22, s23, s24, s25, (.agg (limA 32 b)), (.int .u64 b), s28, s29, c_b4, c_b5, rfl, lk h0, lk h1, lk h2, lk h3, lk h4, lk h5, lk h6, lk h7, lk h8, fun _ => rfl, lk h10, lk h11, lk h12, lk h13, hz0, hz1, HF⟩
      · have d7 := h7 (hd 7 (by kernel_rfl))
        have d9 := h9 (hd 9 (by kernel_rfl))
        obtain rfl := d7
        obtain rfl := d9
        refine wpOp_want rfl rfl (fun K hK => ?_)
        simp only [putAll, z1, z2, z3, z4, z5]
        refine ⟨?_⟩
        go_simp
        exact hK _ _ ⟨[s18, s19, s20, s21, s22, s23, s24, (.int .u64 a), s26, (.int .u64 b), (.int .u64 r), s29], by simp only [putAll, z1, z2], s18, s19, s20, s21, s22, s23, s24, (.int .u64 a), s26, (.int .u64 b), (.int .u64 r), s29, c_b4, c_b5, rfl, lk h0, lk h1, lk h2, lk h3, lk h4, lk h5, lk h6, lk h7, lk h8, lk h9, fun _ => rfl, lk h11, lk h12, lk h13, hz0, hz1, HF⟩
      · have d10 := h10 (hd 10 (by kernel_rfl))
        obtain rfl := d10
        refine wpOp_want rfl rfl (fun K hK => ?_)
        simp only [putAll, z1, z2, z3, z4, z5]
        refine ⟨?_⟩
        go_simp
        with_reducible refine fr_call HF (g6 _) ?_
        clear HF
        intro W HF
        (try dsimp only)
        exact hK _ _ ⟨[s18, s19, s20, s21, s22, s23, s24, s25, s26, s27, (.int .u64 r), (.agg (limA 32 r))], by simp only [putAll, z1, z2], s18, s19, s20, s21, s22, s23, s24, s25, s26, s27, (.int .u64 r), (.agg (limA 32 r)), c_b4, c_b5, rfl, lk h0, lk h1, lk h2, lk h3, lk h4, lk h5, lk h6, lk h7, lk h8, lk h9, lk h10, fun _ => rfl, lk h12, lk h13, hz0, hz1, HF⟩
      · have d5 := h5 (hd 5 (by kernel_rfl))
        obtain rfl := d5
        refine wpOp_want rfl rfl (fun K hK => ?_)
        simp only [putAll, z1, z2, z3, z4, z5]
        with_reducible apply gS HF
        · exact rfl
        · exact rfl
        · (exact tL)
        · (first | (exact tR3))
        · first | exact hz0 | exact tS2
        clear HF
        intro W HF
        simp only [z7, z8, List.append_assoc, List.append_nil] at HF
        go_simp
        exact hK _ _ ⟨[s18, s19, s20, s21, s22, (.agg (limA 32 q)), s24, s25, s26, s27, s28, s29], by simp only [putAll, z1, z2], s18, s19, s20, s21, s22, (.agg (limA 32 q)), s24, s25, s26, s27, s28, s29, (limA 32 q), c_b5, rfl, lk h0, lk h1, lk h2, lk h3, lk h4, lk h5, lk h6, lk h7, lk h8, lk h9, lk h10, lk h11, fun _ => rfl, lk h13, rfl, hz1, HF⟩
      · have d11 := h11 (hd 11 (by kernel_rfl))
        obtain rfl := d11
        refine wpOp_want rfl rfl (fun K hK => ?_)
        simp only [putAll, z1, z2, z3, z4, z5]
        with_reducible apply gS HF
        · exact rfl
        · exact rfl
        · (exact tL)
        · (first | (exact tR3))
        · first | exact hz1 | exact tS2
        clear HF
        intro W HF
        simp only [z7, z8, List.append_assoc, List.append_nil] at HF
        go_simp
        exact hK _ _ ⟨[s18, s19, s20, s21, s22, s23, s24, s25, s26, s27, s28, (.agg (limA 32 r))], by simp only [putAll, z1, z2], s18, s19, s20, s21, s22, s23, s24, s25, s26, s27, s28, (.agg (limA 32 r)), c_b4, (limA 32 r), rfl, lk h0, lk h1, lk h2, lk h3, lk h4, lk h5, lk h6, lk h7, lk h8, lk h9, lk h10, lk h11, lk h12, fun _ => rfl, hz0, rfl, HF⟩
    rintro listed mm W ⟨s18, s19, s20, s21, s22, s23, s24, s25, s26, s27, s28, s29, c_b4, c_b5, rfl, h0, h1, h2, h3, h4, h5, h6, h7, h8, h9, h10, h11, h12, h13, hz0, hz1, HF⟩ hall
    obtain rfl := h0 (hall 0 (by decide))
    obtain rfl := h1 (hall 1 (by decide))
    obtain rfl := h2 (hall 2 (by decide))
    obtain rfl := h3 (hall 3 (by decide))
    obtain rfl := h4 (hall 4 (by decide))
    obtain rfl := h5 (hall 5 (by decide))
    obtain rfl := h6 (hall 6 (by decide))
    obtain rfl := h7 (hall 7 (by decide))
    obtain rfl := h8 (hall 8 (by decide))
    obtain rfl := h9 (hall 9 (by decide))
    obtain rfl := h10 (hall 10 (by decide))
    obtain rfl := h11 (hall 11 (by decide))
    rw [h12 (hall 12 (by decide))] at HF
    rw [h13 (hall 13 (by decide))] at HF
    clear hall h0 h1 h2 h3 h4 h5 h6 h7 h8 h9 h10 h11 h12 h13 hz0 hz1 F
    have F := HF
    clear HF
    simp only [putAll, z1, z2]
    go_wp2_with (first | go_skip | ((with_reducible apply fL F); exact rfl; exact rfl; (exact tL); (exact tR3)) | ((with_reducible apply fA_arr F); exact rfl) | ((with_reducible apply fX_arr F); exact rfl; exact rfl) | ((with_reducible apply fS F); exact rfl; exact rfl; exact rfl; (exact tL); (exact tR3); (exact tS2); clear F; intro W F; simp only [z7, z8] at F))
    exact bodyPost_ret (res_cc rfl rfl rfl (Fr.get F tL) (rowArr _) (Fr.get F tL) (rowArr _)) rfl ⟨rfl, F.below⟩
  have hcase : (decide ((na : Int) ≤ 2) = true ∧ decide ((nb : Int) ≤ 2) = false) ∨ decide ((na : Int) ≤ 2) = false := by
    by_cases h : na ≤ 2
    · exact .inl ⟨decide_eq_true (by omega), decide_eq_false (by omega)⟩
    · exact .inr (decide_eq_false (by omega))
  clear h2
  go_upto_region 1 with (first | go_skip | ((with_reducible apply fL F); exact rfl; exact rfl; (exact tL); (exact tR3)) | ((with_reducible apply fA_arr F); exact rfl) | ((with_reducible apply fX_arr F); exact rfl; exact rfl) | ((with_reducible apply fS F); exact rfl; exact rfl; exact rfl; (exact tL); (exact tR3); (exact tS2); clear F; intro W F; simp only [z7, z8] at F))
  go_cut [17] from 10 to 17 (fun v wr => v = .bool false ∧ Fr w wr [(b5, limA 32 0, 27), (b4, limA 32 0, 27), (b3, limA 32 b, 27), (b2, limA 32 a, 27)])
  case first =>
    rcases hcase with ⟨t1, t2⟩ | t1
    all_goals
      go_wp2_with (first | go_skip | ((go_at_call 130); (with_reducible refine fr_call F (g1 _) ?_); (clear F; intro W F); (try dsimp only)) | ((go_at_call 130); (with_reducible refine fr_call F (g2 _) ?_); (clear F; intro W F); (try dsimp only)) | ((with_reducible apply fL F); exact rfl; exact rfl; (exact tL); (exact tR3)) | ((with_reducible apply fA_arr F); exact rfl) | ((with_reducible apply fX_arr F); exact rfl; exact rfl) | ((with_reducible apply fS F); exact rfl; exact rfl; exact rfl; (exact tL); (exact tR3); (exact tS2); clear F; intro W F; simp only [z7, z8] at F))
      go_meet
      exact ⟨rfl, F⟩
  case rest =>
  clear F
  obtain ⟨rfl, F⟩ := hcut
  clear hcase g1 g2 HU hna hnb
  have g1 := fun w => rbits_any (neg := false) HL.out.1 w
  have g2 := fun w => rbits_any (neg := false) HL.out.2 w
  have hA := bl_lt a
  have hA2 := bl_1024 HL.out.1
  have hB := bl_ge hb
  have hB1 := bl_pos hb
  have hB2 := bl_1024 HL.out.2
  obtain ⟨A, hA0⟩ : ∃ A, bl a = A := ⟨_, rfl⟩
  obtain ⟨B, hB0⟩ : ∃ B, bl b = B := ⟨_, rfl⟩
  obtain ⟨n, hn⟩ : ∃ n, B - 1 = n := ⟨_, rfl⟩
  rw [hA0] at g1 hA hA2
  rw [hB0] at g2 hB hB1 hB2
  rw [hn] at hB
  have e1 : (B : Int) - 1 = (n : Int) := by omega
  have hnb : n ≤ 100000 := by omega
  obtain ⟨wn1, wn2, wn3⟩ := wraps hnb
  have HAB := Lib.hid (And.intro hA hB)
  clear hA hB hA0 hB0
  go_wp2_with (first | go_skip | ((with_reducible apply fL F); exact rfl; exact rfl; (exact tL); (exact tR3)) | ((with_reducible apply fA_arr F); exact rfl) | ((with_reducible apply fX_arr F); exact rfl; exact rfl) | ((with_reducible apply fS F); exact rfl; exact rfl; exact rfl; (exact tL); (exact tR3); (exact tS2); clear F; intro W F; simp only [z7, z8] at F))
  try simp only [Act.put, z6, z1, z2]
  refine wp_region_slots mixP [6, 7, 30, 31, 32, 33, 34, 35, 36] (fun l mm W => ∃ (s6 s7 s30 s31 s32 s33 s34 s35 s36 : Value), mm = [s6, s7, s30, s31, s32, s33, s34, s35, s36] ∧ (l.getD 0 false = true → s30 = .agg (limA 32 a)) ∧ (l.getD 1 false = true → s31 = .agg (intC false a)) ∧ (l.getD 2 false = true → s32 = .int .i64 A) ∧ (l.getD 3 false = true → s33 = .agg (limA 32 b)) ∧ (l.getD 4 false = true → s34 = .agg (intC false b)) ∧ (l.getD 5 false = true → s35 = .int .i64 B) ∧ (l.getD 6 false = true → s36 = .int .i64 n) ∧ (l.getD 7 false = true → s6 = .int .i64 A) ∧ (l.getD 8 false = true → s7 = .int .i64 n) ∧ Fr w W [(b5, limA 32 0, 27), (b4, limA 32 0, 27), (b3, limA 32 b, 27), (b2, limA 32 a, 27)]) (by kernel_rfl) (putAll_self _ _) ?_ ?_ ?_
  · exact ⟨_, _, _, _, _, _, _, _, _, rfl, nf, nf, nf, nf, nf, nf, nf, nf, nf, F.drew⟩
  · rintro listed mm W ii hi hsz hoff ⟨s6, s7, s30, s31, s32, s33, s34, s35, s36, rfl, h0, h1, h2, h3, h4, h5, h6, h7, h8, HF⟩ hd
    have hc := dr_c9 hi
    have hsz2 : listed.size = 9 := hsz
    clear hi hsz
    rcases hc with rfl | rfl | rfl | rfl | rfl | rfl | rfl | rfl | rfl
    · refine wpOp_want rfl rfl (fun K hK => ?_)
      simp only [putAll, z1, z2, z3, z4, z5]
      with_reducible apply gL HF
      · exact rfl
      · (exact tL)
      · (first | (exact tR3))
      go_simp
      exact hK _ _ ⟨[s6, s7, (.agg (limA 32 a)), s31, s32, s33, s34, s35, s36], by simp only [putAll, z1, z2], s6, s7, (.agg (limA 32 a)), s31, s32, s33, s34, s35, s36, rfl, fun _ => rfl, lk h1, lk h2, lk h3, lk h4, lk h5, lk h6, lk h7, lk h8, HF⟩
    · have d0 := h0 (hd 0 (by kernel_rfl))
      obtain rfl := d0
      refine wpOp_want rfl rfl (fun K hK => ?_)
      simp only [putAll, z1, z2, z3, z4, z5]
      with_reducible apply gB_intm
      · exact rfl
      go_simp
      exact hK _ _ ⟨[s6, s7, (.agg (limA 32 a)), (.agg (intC false a)), s32, s33, s34, s35, s36], by simp only [putAll, z1, z2], s6, s7, (.agg (limA 32 a)), (.agg (intC false a)), s32, s33, s34, s35, s36, rfl, lk h0, fun _ => rfl, lk h2, lk h3, lk h4, lk h5, lk h6, lk h7, lk h8, HF⟩
    · have d1 := h1 (hd 1 (by kernel_rfl))
      obtain rfl := d1
      refine wpOp_want rfl rfl (fun K hK => ?_)
      simp only [putAll, z1, z2, z3, z4, z5]
      refine ⟨?_⟩
      go_simp
      with_reducible refine fr_call HF (g1 _) ?_
      clear HF
      intro W HF
      (try dsimp only)
      exact hK _ _ ⟨[s6, s7, s30, (.agg (intC false a)), (.int .i64 A), s33, s34, s35, s36], by simp only [putAll, z1, z2], s6, s7, s30, (.agg (intC false a)), (.int .i64 A), s33, s34, s35, s36, rfl, lk h0, lk h1, fun _ => rfl, lk h3, lk h4, lk h5, lk h6, lk h7, lk h8, HF⟩
    · refine wpOp_want rfl rfl (fun K hK => ?_)
      simp only [putAll, z1, z2, z3, z4, z5]
      with_reducible apply gL HF
      · exact rfl
      · (exact tL)
      · (first | (exact tR3))
      go_simp
      exact hK _ _ ⟨[s6, s7, s30, s31, s32, (.agg (limA 32 b)), s34, s35, s36], by simp only [putAll, z1, z2], s6, s7, s30, s31, s32, (.agg (limA 32 b)), s34, s35, s36, rfl, lk h0, lk h1, lk h2, fun _ => rfl, lk h4, lk h5, lk h6, lk h7, lk h8, HF⟩
    · have d3 := h3 (hd 3 (by kernel_rfl))
      obtain rfl := d3
      refine wpOp_want rfl rfl (fun K hK => ?_)
      simp only [putAll, z1, z2, z3, z4, z5]
      with_reducible apply gB_intm
      · exact rfl
      go_simp
      exact hK _ _ ⟨[s6, s7, s30, s31, s32, (.agg (limA 32 b)), (.agg (intC false b)), s35, s36], by simp only [putAll, z1, z2], s6, s7, s30, s31, s32, (.agg (limA 32 b)), (.agg (intC false b)), s35, s36, rfl, lk h0, lk h1, lk h2, lk h3, fun _ => rfl, lk h5, lk h6, lk h7, lk h8, HF⟩
    · have d4 := h4 (hd 4 (by kernel_rfl))
      obtain rfl := d4
      refine wpOp_want rfl rfl (fun K hK => ?_)
      simp only [putAll, z1, z2, z3, z4, z5]
      refine ⟨?_⟩
      go_simp
      with_reducible refine fr_call HF (g2 _) ?_
      clear HF
      intro W HF
      (try dsimp only)
      exact hK _ _ ⟨[s6, s7, s30, s31, s32, s33, (.agg (intC false b)), (.int .i64 B), s36], by simp only [putAll, z1, z2], s6, s7, s30, s31, s32, s33, (.agg (intC false b)), (.int .i64 B), s36, rfl, lk h0, lk h1, lk h2, lk h3, lk h4, fun _ => rfl, lk h6, lk h7, lk h8, HF⟩
    · have d5 := h5 (hd 5 (by kernel_rfl))
      obtain rfl := d5
      refine wpOp_want rfl rfl (fun K hK => ?_)
      simp only [putAll, z1, z2, z3, z4, z5]
      refine ⟨?_⟩
      go_simp
      exact hK _ _ ⟨[s6, s7, s30, s31, s32, s33, s34, (.int .i64 B), (.int .i64 n)], by simp only [putAll, z1, z2], s6, s7, s30, s31, s32, s33, s34, (.int .i64 B), (.int .i64 n), rfl, lk h0, lk h1, lk h2, lk h3, lk h4, lk h5, fun _ => rfl, lk h7, lk h8, HF⟩
    · have d2 := h2 (hd 2 (by kernel_rfl))
      obtain rfl := d2
      refine wpOp_want rfl rfl (fun K hK => ?_)
      simp only [putAll, z1, z2, z3, z4, z5]
      refine ⟨?_⟩
      go_simp
      exact hK _ _ ⟨[(.int .i64 A), s7, s30, s31, (.int .i64 A), s33, s34, s35, s36], by simp only [putAll, z1, z2], (.int .i64 A), s7, s30, s31, (.int .i64 A), s33, s34, s35, s36, rfl, lk h0, lk h1, lk h2, lk h3, lk h4, lk h5, lk h6, fun _ => rfl, lk h8, HF⟩
    · have d6 := h6 (hd 6 (by kernel_rfl))
      obtain rfl := d6
      refine wpOp_want rfl rfl (fun K hK => ?_)
      simp only [putAll, z1, z2, z3, z4, z5]
      refine ⟨?_⟩
      go_simp
      exact hK _ _ ⟨[s6, (.int .i64 n), s30, s31, s32, s33, s34, s35, (.int .i64 n)], by simp only [putAll, z1, z2], s6, (.int .i64 n), s30, s31, s32, s33, s34, s35, (.int .i64 n), rfl, lk h0, lk h1, lk h2, lk h3, lk h4, lk h5, lk h6, lk h7, fun _ => rfl, HF⟩
  rintro listed mm W ⟨s6, s7, s30, s31, s32, s33, s34, s35, s36, rfl, h0, h1, h2, h3, h4, h5, h6, h7, h8, HF⟩ hall
  obtain rfl := h0 (hall 0 (by decide))
  obtain rfl := h1 (hall 1 (by decide))
  obtain rfl := h2 (hall 2 (by decide))
  obtain rfl := h3 (hall 3 (by decide))
  obtain rfl := h4 (hall 4 (by decide))
  obtain rfl := h5 (hall 5 (by decide))
  obtain rfl := h6 (hall 6 (by decide))
  obtain rfl := h7 (hall 7 (by decide))
  obtain rfl := h8 (hall 8 (by decide))
  clear hall h0 h1 h2 h3 h4 h5 h6 h7 h8 F
  have F := HF
  clear HF
  simp only [putAll, z1, z2]
  clear g1 g2 wn1 wn2 wn3 hnb
  by_cases hAn : A ≤ n
  · have hab : a < b := by
      have h1 := Nat.pow_le_pow_right (n := 2) (by decide) hAn
      have := HAB.out.1
      have := HAB.out.2
      omega
    have hq : q = 0 := by rw [← HQ.out.1]; exact Nat.div_eq_of_lt hab
    have hr : r = a := by rw [← HQ.out.2]; exact Nat.mod_eq_of_lt hab
    subst hq
    subst hr
    have t1 : decide (A ≤ n) = true := decide_eq_true hAn
    clear hab e1 hn hB1 hB2 hA2 HAB HQ HL
    go_wp2_with (first | go_skip | ((with_reducible apply fL F); exact rfl; exact rfl; (exact tL); (exact tR3)) | ((with_reducible apply fA_arr F); exact rfl) | ((with_reducible apply fX_arr F); exact rfl; exact rfl) | ((with_reducible apply fS F); exact rfl; exact rfl; exact rfl; (exact tL); (exact tR3); (exact tS2); clear F; intro W F; simp only [z7, z8] at F))
    try simp only [Act.put, z6, z1, z2]
    refine wp_region_slots mixP [40, 41] (fun l mm W => ∃ (s40 s41 : Value) (c_b4 c_b5 : Array Value), mm = [s40, s41] ∧ (l.getD 0 false = true → s40 = .agg (limA 32 0)) ∧ (l.getD 1 false = true → s41 = .agg (limA 32 r)) ∧ (l.getD 2 false = true → c_b4 = limA 32 0) ∧ (l.getD 3 false = true → c_b5 = limA 32 r) ∧ (l.getD 2 false = false → c_b4 = limA 32 0) ∧ (l.getD 2 false = true → l.getD 0 false = true) ∧ c_b4.size = (limA 32 0).size ∧ c_b5.size = (limA 32 r).size ∧ Fr w W [(b5, c_b5, 27), (b4, c_b4, 27), (b3, limA 32 b, 27), (b2, limA 32 r, 27)]) (by kernel_rfl) (putAll_self _ _) ?_ ?_ ?_
    · exact ⟨_, _, (limA 32 0), (limA 32 0), rfl, nf, nf, nf, nf, fun _ => rfl, nf, by exact tS2, by exact tS2, F.drew⟩
    · rintro listed mm W ii hi hsz hoff ⟨s40, s41, c_b4, c_b5, rfl, h0, h1, h2, h3, hO_b4, hW_b4_0, hz0, hz1, HF⟩ hd
      have hc := dr_c4 hi
      have hsz2 : listed.size = 4 := hsz
      clear hi hsz
      rcases hc with rfl | rfl | rfl | rfl
      · refine wpOp_want rfl rfl (fun K hK => ?_)
        simp only [putAll, z1, z2, z3, z4, z5]
        have hold := hO_b4 (by cases hx : listed.getD 2 false with | false => rfl | true => exact absurd (hW_b4_0 hx) (by rw [hoff]; decide))
        rw [hold] at HF
        with_reducible apply gL HF
        · exact rfl
        · (exact tL)
        · (first | (exact tR3))
        rw [← hold] at HF
        go_simp
        exact hK _ _ ⟨[(.agg (limA 32 0)), s41], by simp only [putAll, z1, z2], (.agg (limA 32 0)), s41, c_b4, c_b5, rfl, fun _ => rfl, lk h1, lk h2, lk h3, listed_keepF (by decide) hO_b4, fun _ => getD_on (by rw [hsz2]; decide), hz0, hz1, HF⟩
      · refine wpOp_want rfl rfl (fun K hK => ?_)
        simp only [putAll, z1, z2, z3, z4, z5]
        with_reducible apply gL HF
        · exact rfl
        · (exact tL)
        · (first | (exact tR3))
        go_simp
        exact hK _ _ ⟨[s40, (.agg (limA 32 r))], by simp only [putAll, z1, z2], s40, (.agg (limA 32 r)), c_b4, c_b5, rfl, lk h0, fun _ => rfl, lk h2, lk h3, listed_keepF (by decide) hO_b4, fun h => by rw [getD_keep (show 1 ≠ 2 by decide)] at h; rw [getD_keep (show 1 ≠ 0 by decide)]; exact hW_b4_0 h, hz0, hz1, HF⟩
      · have d0 := h0 (hd 0 (by kernel_rfl))
        obtain rfl := d0
        refine wpOp_want rfl rfl (fun K hK => ?_)
        simp only [putAll, z1, z2, z3, z4, z5]
        with_reducible apply gS HF
        · exact rfl
        · exact rfl
        · (exact tL)
        · (first | (exact tR3))
        · first | exact hz0 | exact tS2
        clear HF
        intro W HF
        simp only [z7, z8, List.append_assoc, List.append_nil] at HF
        go_simp
        exact hK _ _ ⟨[(.agg (limA 32 0)), s41], by simp only [putAll, z1, z2], (.agg (limA 32 0)), s41, (limA 32 0), c_b5, rfl, lk h0, lk h1, fun _ => rfl, lk h3, fun h => absurd h (by rw [getD_on (show 2 < listed.size by rw [hsz2]; decide)]; decide), fun _ => by rw [getD_keep (show 2 ≠ 0 by decide)]; exact hd 0 (by kernel_rfl), rfl, hz1, HF⟩
      · have d1 := h1 (hd 1 (by kernel_rfl))
        obtain rfl := d1
        refine wpOp_want rfl rfl (fun K hK => ?_)
        simp only [putAll, z1, z2, z3, z4, z5]
        with_reducible apply gS HF
        · exact rfl
        · exact rfl
        · (exact tL)
        · (first | (exact tR3))
        · first | exact hz1 | exact tS2
        clear HF
        intro W HF
        simp only [z7, z8, List.append_assoc, List.append_nil] at HF
        go_simp
        exact hK _ _ ⟨[s40, (.agg (limA 32 r))], by simp only [putAll, z1, z2], s40, (.agg (limA 32 r)), c_b4, (limA 32 r), rfl, lk h0, lk h1, lk h2, fun _ => rfl, listed_keepF (by decide) hO_b4, fun h => by rw [getD_keep (show 3 ≠ 2 by decide)] at h; rw [getD_keep (show 3 ≠ 0 by decide)]; exact hW_b4_0 h, hz0, rfl, HF⟩
    rintro listed mm W ⟨s40, s41, c_b4, c_b5, rfl, h0, h1, h2, h3, hO_b4, hW_b4_0, hz0, hz1, HF⟩ hall
    obtain rfl := h0 (hall 0 (by decide))
    obtain rfl := h1 (hall 1 (by decide))
    rw [h2 (hall 2 (by decide))] at HF
    rw [h3 (hall 3 (by decide))] at HF
    clear hall h0 h1 h2 h3 hO_b4 hW_b4_0 hz0 hz1 F
    have F := HF
    clear HF
    simp only [putAll, z1, z2]
    go_wp2_with (first | go_skip | ((with_reducible apply fL F); exact rfl; exact rfl; (exact tL); (exact tR3)) | ((with_reducible apply fA_arr F); exact rfl) | ((with_reducible apply fX_arr F); exact rfl; exact rfl) | ((with_reducible apply fS F); exact rfl; exact rfl; exact rfl; (exact tL); (exact tR3); (exact tS2); clear F; intro W F; simp only [z7, z8] at F))
    exact bodyPost_ret (res_cc rfl rfl rfl (Fr.get F tL) (rowArr _) (Fr.get F tL) (rowArr _)) rfl ⟨rfl, F.below⟩
  obtain ⟨D, hD⟩ : ∃ D, A - n = D := ⟨_, rfl⟩
  have hs : a / 2 ^ D < b := by
    have h1 := shr_small (n := n) HAB.out.1
    rw [hD] at h1
    exact Nat.lt_of_lt_of_le h1 HAB.out.2
  have g3 := fun w => rshifted_any HL.out.1 (n := D) (by omega) w
  have HST := Lib.hid (And.intro (Nat.mod_eq_of_lt hs) (show a / 2 ^ D / b * 2 ^ D = 0 by rw [Nat.div_eq_of_lt hs, Nat.zero_mul]))
  have t1 : decide (A ≤ n) = false := decide_eq_false hAn
  have e2 : (A : Int) - (n : Int) = (D : Int) := by omega
  have hDb : D ≤ 1024 := by omega
  have HDB := Lib.hid hDb
  have we := wrap_pred hDb
  obtain ⟨wd1, wd2, wd3⟩ := wraps (j := D) (Nat.le_trans hDb (by decide))
  clear hs e1 hn hB1 hB2 hA2 HAB hD hDb
  go_wp2_with (first | go_skip | ((go_at_call 161); (with_reducible refine fr_call F (g3 _) ?_); (clear F; intro W F); (try dsimp only)) | ((with_reducible apply fL F); exact rfl; exact rfl; (exact tL); (exact tR3)) | ((with_reducible apply fA_arr F); exact rfl) | ((with_reducible apply fX_arr F); exact rfl; exact rfl) | ((with_reducible apply fS F); exact rfl; exact rfl; exact rfl; (exact tL); (exact tR3); (exact tS2); clear F; intro W F; simp only [z7, z8] at F))
  go_loopw [8] (fun iv wr => ∃ k rk qk : Nat, k ≤ D ∧ iv = .int .i64 ((k : Int) - 1) ∧ a / 2 ^ k % b = rk ∧ a / 2 ^ k / b * 2 ^ k = qk ∧ Fr w wr [(b5, limA 32 rk, 27), (b4, limA 32 qk, 27), (b3, limA 32 b, 27), (b2, limA 32 a, 27)]) (fun iv _ => (intOf iv + 1).toNat)
  case atStart => exact ⟨D, _, 0, by omega, by first | rfl | exact congrArg (Value.int .i64) we, HST.out.1, HST.out.2, F⟩
  case round =>
    clear F g3 e2 wd1 wd2 wd3 we t1 HST
    obtain ⟨k, rk, qk, hk, rfl, hrk, hqk, F⟩ := hrel
    cases k with
    | zero =>
      rw [show ((0 : Nat) : Int) - 1 = -1 from rfl]
      rw [Nat.pow_zero, Nat.div_one] at hrk hqk
      rw [Nat.mul_one, HQ.out.1] at hqk
      rw [HQ.out.2] at hrk
      subst hrk
      subst hqk
      clear HQ HL HDB hk
      go_wp2_with fail
      try simp only [Act.put, z6, z1, z2]
      refine wp_region_slots mixP [89, 90] (fun l mm W => ∃ (s89 s90 : Value) (c_b4 c_b5 : Array Value), mm = [s89, s90] ∧ (l.getD 0 false = true → s89 = .agg (limA 32 q)) ∧ (l.getD 1 false = true → s90 = .agg (limA 32 r)) ∧ (l.getD 2 false = true → c_b4 = limA 32 q) ∧ (l.getD 3 false = true → c_b5 = limA 32 r) ∧ (l.getD 2 false = false → c_b4 = limA 32 q) ∧ (l.getD 2 false = true → l.getD 0 false = true) ∧ (l.getD 3 false = false → c_b5 = limA 32 r) ∧ (l.getD 3 false = true → l.getD 1 false = true) ∧ c_b4.size = (limA 32 q).size ∧ c_b5.size = (limA 32 r).size ∧ Fr w W [(b5, c_b5, 27), (b4, c_b4, 27), (b3, limA 32 b, 27), (b2, limA 32 a, 27)]) (by kernel_rfl) (putAll_self _ _) ?_ ?_ ?_
      · exact ⟨_, _, (limA 32 q), (limA 32 r), rfl, nf, nf, nf, nf, fun _ => rfl, nf, fun _ => rfl, nf, by exact tS2, by exact tS2, F.drew⟩
      · rintro listed mm W ii hi hsz hoff ⟨s89, s90, c_b4, c_b5, rfl, h0, h1, h2, h3, hO_b4, hW_b4_0, hO_b5, hW_b5_1, hz0, hz1, HF⟩ hd
        have hc := dr_c4 hi
        have hsz2 : listed.size = 4 := hsz
        clear hi hsz
        rcases hc with rfl | rfl | rfl | rfl
        · refine wpOp_want rfl rfl (fun K hK => ?_)
          simp only [putAll, z1, z2, z3, z4, z5]
          have hold := hO_b4 (by cases hx : listed.getD 2 false with | false => rfl | true => exact absurd (hW_b4_0 hx) (by rw [hoff]; decide))
          rw [hold] at HF
          with_reducible apply gL HF
          · exact rfl
          · (exact tL)
          · (first | (exact tR3))
          rw [← hold] at HF
          go_simp
          exact hK _ _ ⟨[(.agg (limA 32 q)), s90], by simp only [putAll, z1, z2], (.agg (limA 32 q)), s90, c_b4, c_b5, rfl, fun _ => rfl, lk h1, lk h2, lk h3, listed_keepF (by decide) hO_b4, fun _ => getD_on (by rw [hsz2]; decide), listed_keepF (by decide) hO_b5, fun h => by rw [getD_keep (show 0 ≠ 3 by decide)] at h; rw [getD_keep (show 0 ≠ 1 by decide)]; exact hW_b5_1 h, hz0, hz1, HF⟩
        · refine wpOp_want rfl rfl (fun K hK => ?_)
          simp only [putAll, z1, z2, z3, z4, z5]
          have hold := hO_b5 (by cases hx : listed.getD 3 false with | false => rfl | true => exact absurd (hW_b5_1 hx) (by rw [hoff]; decide))
          rw [hold] at HF
          with_reducible apply gL HF
          · exact rfl
          · (exact tL)
          · (first | (exact tR3))
          rw [← hold] at HF
          go_simp
          exact hK _ _ ⟨[s89, (.agg (limA 32 r))], by simp only [putAll, z1, z2], s89, (.agg (limA 32 r)), c_b4, c_b5, rfl, lk h0, fun _ => rfl, lk h2, lk h3, listed_keepF (by decide) hO_b4, fun h => by rw [getD_keep (show 1 ≠ 2 by decide)] at h; rw [getD_keep (show 1 ≠ 0 by decide)]; exact hW_b4_0 h, listed_keepF (by decide) hO_b5, fun _ => getD_on (by rw [hsz2]; decide), hz0, hz1, HF⟩
        · have d0 := h0 (hd 0 (by kernel_rfl))
          obtain rfl := d0
          refine wpOp_want rfl rfl (fun K hK => ?_)
          simp only [putAll, z1, z2, z3, z4, z5]
          with_reducible apply gS HF
          · exact rfl
          · exact rfl
          · (exact tL)
          · (first | (exact tR3))
          · first | exact hz0 | exact tS2
          clear HF
          intro W HF
          simp only [z7, z8, List.append_assoc, List.append_nil] at HF
          go_simp
          exact hK _ _ ⟨[(.agg (limA 32 q)), s90], by simp only [putAll, z1, z2], (.agg (limA 32 q)), s90, (limA 32 q), c_b5, rfl, lk h0, lk h1, fun _ => rfl, lk h3, fun h => absurd h (by rw [getD_on (show 2 < listed.size by rw [hsz2]; decide)]; decide), fun _ => by rw [getD_keep (show 2 ≠ 0 by decide)]; exact hd 0 (by kernel_rfl), listed_keepF (by decide) hO_b5, fun h => by rw [getD_keep (show 2 ≠ 3 by decide)] at h; rw [getD_keep (show 2 ≠ 1 by decide)]; exact hW_b5_1 h, rfl, hz1, HF⟩
        · have d1 := h1 (hd 1 (by kernel_rfl))
          obtain rfl := d1
          refine wpOp_want rfl rfl (fun K hK => ?_)
          simp only [putAll, z1, z2, z3, z4, z5]
          with_reducible apply gS HF
          · exact rfl
          · exact rfl
          · (exact tL)
          · (first | (exact tR3))
          · first | exact hz1 | exact tS2
          clear HF
          intro W HF
          simp only [z7, z8, List.append_assoc, List.append_nil] at HF
          go_simp
          exact hK _ _ ⟨[s89, (.agg (limA 32 r))], by simp only [putAll, z1, z2], s89, (.agg (limA 32 r)), c_b4, (limA 32 r), rfl, lk h0, lk h1, lk h2, fun _ => rfl, listed_keepF (by decide) hO_b4, fun h => by rw [getD_keep (show 3 ≠ 2 by decide)] at h; rw [getD_keep (show 3 ≠ 0 by decide)]; exact hW_b4_0 h, fun h => absurd h (by rw [getD_on (show 3 < listed.size by rw [hsz2]; decide)]; decide), fun _ => by rw [getD_keep (show 3 ≠ 1 by decide)]; exact hd 1 (by kernel_rfl), hz0, rfl, HF⟩
      rintro listed mm W ⟨s89, s90, c_b4, c_b5, rfl, h0, h1, h2, h3, hO_b4, hW_b4_0, hO_b5, hW_b5_1, hz0, hz1, HF⟩ hall
      obtain rfl := h0 (hall 0 (by decide))
      obtain rfl := h1 (hall 1 (by decide))
      rw [h2 (hall 2 (by decide))] at HF
      rw [h3 (hall 3 (by decide))] at HF
      clear hall h0 h1 h2 h3 hO_b4 hW_b4_0 hO_b5 hW_b5_1 hz0 hz1 F
      have F := HF
      clear HF
      simp only [putAll, z1, z2]
      go_wp2_with (first | go_skip | ((with_reducible apply fL F); exact rfl; exact rfl; (exact tL); (exact tR3)) | ((with_reducible apply fA_arr F); exact rfl) | ((with_reducible apply fX_arr F); exact rfl; exact rfl) | ((with_reducible apply fS F); exact rfl; exact rfl; exact rfl; (exact tL); (exact tR3); (exact tS2); clear F; intro W F; simp only [z7, z8] at F))
      exact bodyPost_ret (res_cc rfl rfl rfl (Fr.get F tL) (rowArr _) (Fr.get F tL) (rowArr _)) rfl ⟨rfl, F.below⟩
    | succ i =>
      have e1 : ((i + 1 : Nat) : Int) - 1 = (i : Int) := by omega
      rw [e1]
      clear e1
      have hi : i < 1024 := by have := HDB.out; omega
      obtain ⟨j, hj⟩ : ∃ j, i / 32 = j := ⟨_, rfl⟩
      obtain ⟨s, hs⟩ : ∃ s, i % 32 = s := ⟨_, rfl⟩
      have hij : i = 32 * j + s := by omega
      have hs32 : s < 32 := by omega
      have hj32 : j < 32 := by omega
      obtain ⟨R, hR⟩ : ∃ R, 2 * rk + a / 2 ^ i % 2 = R := ⟨_, rfl⟩
      obtain ⟨hrb, hlow, hhigh⟩ := div_step (by omega : 0 < b) hrk hqk hR
      have hq0 : qk % 2 ^ (i + 1) = 0 := by rw [← hqk]; exact Nat.mul_mod_left _ _
      obtain ⟨q1, q2, q3⟩ := quo_bit hij hs32 hq0
      obtain ⟨y, hy⟩ : ∃ y, lim qk j = y := ⟨_, rfl⟩
      obtain ⟨P, hP⟩ : ∃ P, 2 ^ s = P := ⟨_, rfl⟩
      rw [hy, hP] at q1 q2 q3
      obtain ⟨bit, hbit⟩ : ∃ bit, a / 2 ^ i % 2 = bit := ⟨_, rfl⟩
      obtain ⟨x, hx⟩ : ∃ x, lim a j = x := ⟨_, rfl⟩
      have hx1 : x < 4294967296 := by rw [← hx]; exact lim_lt _ _
      obtain ⟨p, hp⟩ : ∃ p, x / 2 ^ s = p := ⟨_, rfl⟩
      have hp1 : p < 4294967296 := by rw [← hp]; exact Nat.lt_of_le_of_lt (Nat.div_le_self _ _) hx1
      have hpb : p % 2 = bit := by rw [← hp, ← hx, bit_eq hij hs32, hbit]
      have hb1 : bit ≤ 1 := by omega
      rw [hbit] at hR
      obtain ⟨R', hR'⟩ : ∃ R', R % bp 32 = R' := ⟨_, rfl⟩
      obtain ⟨lost, hlost⟩ : ∃ f, decide (bp 32 ≤ R) = f := ⟨_, rfl⟩
      have g3 := fun w => rdouble_any (m := rk) (bit := bit) (r := R') (f := lost) (Nat.lt_trans hrb HL.out.2) hb1 (by rw [hR]; exact hR') (by rw [hR]; exact hlost) w
      have hR1 : R' < bp 32 := by rw [← hR']; exact Nat.mod_lt _ (bp_pos 32)
      have g4 := fun w => rcompare_any hR1 HL.out.2 w
      obtain ⟨v, hv⟩ : ∃ v, cmpN R' b = v := ⟨_, rfl⟩
      rw [hv] at g4
      have hways : (lost = true ∧ b ≤ R) ∨ (lost = false ∧ decide (0 ≤ v) = true ∧ b ≤ R) ∨ (lost = false ∧ decide (0 ≤ v) = false ∧ R < b ∧ R' = R) := by
        have hlb := HL.out.2
        by_cases h : bp 32 ≤ R
        · exact .inl ⟨by rw [← hlost]; exact decide_eq_true h, by omega⟩
        · have hRR : R' = R := by rw [← hR']; exact Nat.mod_eq_of_lt (by omega)
          have hl : lost = false := by rw [← hlost]; exact decide_eq_false h
          by_cases h2 : b ≤ R
          · exact .inr (.inl ⟨hl, decide_eq_true (by rw [← hv, hRR]; unfold cmpN; rw [if_neg (by omega)]; split <;> omega), h2⟩)
          · exact .inr (.inr ⟨hl, decide_eq_false (by rw [← hv, hRR]; unfold cmpN; rw [if_pos (by omega)]; omega), by omega, hRR⟩)
      have g5 : b ≤ R → ∀ w, Calls Tryz.prog 127 #[.agg (limA 32 R'), .agg (limA 32 b)] w (RetB (.agg (limA 32 (R - b))) w) := fun h w => rdiff_any hR1 HL.out.2 (by
        have hlb := HL.out.2
        rw [← hR']
        rcases Nat.lt_or_ge R (bp 32) with h3 | h3
        · rw [Nat.mod_eq_of_lt h3, show R + bp 32 - b = R - b + bp 32 by omega, Nat.add_mod_right, Nat.mod_eq_of_lt (by omega)]
        · rw [show R = R - bp 32 + bp 32 by omega, Nat.add_mod_right, Nat.mod_eq_of_lt (show R - bp 32 < bp 32 by omega), show R - bp 32 + bp 32 - b = R - b by omega, Nat.mod_eq_of_lt (by omega)]) w
      have ca : (limA 32 a)[j]? = some (.int .u32 x) := by rw [← hx]; exact limA_at hj32
      have d1 := tdiv_nat hj
      have d2 := tmod_nat hs
      have d5 : (i : Int).tdiv 32 = (j : Int) := d1
      have d6 : (i : Int).tmod 32 = (s : Int) := d2
      have d3 : (i : Int) / 32 = (j : Int) := by omega
      have d4 : (i : Int) % 32 = (s : Int) := by omega
      have hj5 : j ≤ 100000 := by omega
      have hs5 : s ≤ 100000 := by omega
      have hs33 := hs32
      have m1 : (x : Int) / 2 ^ s = (p : Int) := by rw [← hp]; exact shr_cast x s
      have m2 : bits .and .u32 (p : Int) 1 = (bit : Int) := by rw [u32_and1 hp1, hpb]
      have hmin : min s 32 = s := Nat.min_eq_left (by omega)
      have i0 : (0 : Int) ≤ (i : Int) := by omega
      have j0 : (0 : Int) ≤ (j : Int) := by omega
      have j1 : (j : Int) < 32 := by omega
      have HST := Lib.hid (And.intro hlow (And.intro hhigh (And.intro hways g5)))
      have HQQ := Lib.hid (And.intro q1 (And.intro q2 (And.intro q3 (And.intro hy (And.intro hP (And.intro hj32 (show i ≤ D by omega)))))))
      obtain ⟨wj1, wj2, wj3⟩ := wraps hj5
      obtain ⟨-, -, ws3⟩ := wraps hs5
      clear hj hs hij hs32 hR hrb hlow hhigh hq0 q1 q2 q3 hP hbit hx hx1 hp hp1 hpb hb1 hR' hlost hR1 hv hways g5 hrk hqk hk
      have HI0 := Lib.hid (Nat.le_of_lt hi)
      clear hi
      go_wp2_with (first | go_skip | ((with_reducible apply fL F); exact rfl; exact rfl; (exact tL); (exact tR3)) | ((with_reducible apply fA_arr F); exact rfl) | ((with_reducible apply fX_arr F); exact rfl; exact rfl) | ((with_reducible apply fS F); exact rfl; exact rfl; exact rfl; (exact tL); (exact tR3); (exact tS2); clear F; intro W F; simp only [z7, z8] at F))
      try simp only [Act.put, z6, z1, z2]
      refine wp_region_slots mixP [9, 55, 56, 57, 58, 59, 60, 61, 62, 63, 64, 65, 66, 67, 68] (fun l mm W => ∃ (s9 s55 s56 s57 s58 s59 s60 s61 s62 s63 s64 s65 s66 s67 s68 : Value) (c_b5 : Array Value), mm = [s9, s55, s56, s57, s58, s59, s60, s61, s62, s63, s64, s65, s66, s67, s68] ∧ (l.getD 0 false = true → s56 = .agg (limA 32 rk)) ∧ (l.getD 1 false = true → s57 = .int .i64 (i : Int)) ∧ (l.getD 2 false = true → s58 = .int .i64 (j : Int)) ∧ (l.getD 3 false = true → s59 = .pointer (some ⟨b2, j, none⟩)) ∧ (l.getD 4 false = true → s60 = .int .u32 (x : Int)) ∧ (l.getD 5 false = true → s61 = .int .i64 (i : Int)) ∧ (l.getD 6 false = true → s62 = .int .i64 (s : Int)) ∧ (l.getD 7 false = true → s63 = .int .u64 (s : Int)) ∧ (l.getD 8 false = true → s64 = .int .u32 (p : Int)) ∧ (l.getD 9 false = true → s65 = .int .u32 (bit : Int)) ∧ (l.getD 10 false = true → s66 = .tuple #[.agg (limA 32 R'), .bool lost]) ∧ (l.getD 11 false = true → s55 = .tuple #[.agg (limA 32 R'), .bool lost]) ∧ (l.getD 12 false = true → s67 = .agg (limA 32 R')) ∧ (l.getD 13 false = true → s68 = .bool lost) ∧ (l.getD 14 false = true → c_b5 = limA 32 R') ∧ (l.getD 15 false = true → s9 = .bool lost) ∧ (l.getD 14 false = false → c_b5 = limA 32 rk) ∧ (l.getD 14 false = true → l.getD 0 false = true) ∧ c_b5.size = (limA 32 R').size ∧ Fr w W [(b5, c_b5, 27), (b4, limA 32 qk, 27), (b3, limA 32 b, 27), (b2, limA 32 a, 27)]) (by kernel_rfl) (putAll_self _ _) ?_ ?_ ?_
      · exact ⟨_, _, _, _, _, _, _, _, _, _, _, _, _, _, _, (limA 32 rk), rfl, nf, nf, nf, nf, nf, nf, nf, nf, nf, nf, nf, nf, nf, nf, nf, nf, fun _ => rfl, nf, by exact tS2, F.drew⟩
      · rintro listed mm W ii hi hsz hoff ⟨s9, s55, s56, s57, s58, s59, s60, s61, s62, s63, s64, s65, s66, s67, s68, c_b5, rfl, h0, h1, h2, h3, h4, h5, h6, h7, h8, h9, h10, h11, h12, h13, h14, h15, hO_b5, hW_b5_0, hz0, HF⟩ hd
        have hc := dr_c16 hi
        have hsz2 : listed.size = 16 := hsz
        clear hi hsz
        rcases hc with rfl | rfl | rfl | rfl | rfl | rfl | rfl | rfl | rfl | rfl | rfl | rfl | rfl | rfl | rfl | rfl
        · refine wpOp_want rfl rfl (fun K hK => ?_)
          simp only [putAll, z1, z2, z3, z4, z5]
          have hold := hO_b5 (by cases hx : listed.getD 14 false with | false => rfl | true => exact absurd (hW_b5_0 hx) (by rw [hoff]; decide))
          rw [hold] at HF
          with_reducible apply gL HF
          · exact rfl
          · (exact tL)
          · (first | (exact tR3))
          rw [← hold] at HF
          go_simp
          exact hK _ _ ⟨[s9, s55, (.agg (limA 32 rk)), s57, s58, s59, s60, s61, s62, s63, s64, s65, s66, s67, s68], by simp only [putAll, z1, z2], s9, s55, (.agg (limA 32 rk)), s57, s58, s59, s60, s61, s62, s63, s64, s65, s66, s67, s68, c_b5, rfl, fun _ => rfl, lk h1, lk h2, lk h3, lk h4, lk h5, lk h6, lk h7, lk h8, lk h9, lk h10, lk h11, lk h12, lk h13, lk h14, lk h15, listed_keepF (by decide) hO_b5, fun _ => getD_on (by rw [hsz2]; decide), hz0, HF⟩
        · refine wpOp_want rfl rfl (fun K hK => ?_)
          simp only [putAll, z1, z2, z3, z4, z5]
          refine ⟨?_⟩
          go_simp
          exact hK _ _ ⟨[s9, s55, s56, (.int .i64 (i : Int)), s58, s59, s60, s61, s62, s63, s64, s65, s66, s67, s68], by simp only [putAll, z1, z2], s9, s55, s56, (.int .i64 (i : Int)), s58, s59, s60, s61, s62, s63, s64, s65, s66, s67, s68, c_b5, rfl, lk h0, fun _ => rfl, lk h2, lk h3, lk h4, lk h5, lk h6, lk h7, lk h8, lk h9, lk h10, lk h11, lk h12, lk h13, lk h14, lk h15, listed_keepF (by decide) hO_b5, fun h => by rw [getD_keep (show 1 ≠ 14 by decide)] at h; rw [getD_keep (show 1 ≠ 0 by decide)]; exact hW_b5_0 h, hz0, HF⟩
        · have d1 := h1 (hd 1 (by kernel_rfl))
          obtain rfl := d1
          refine wpOp_want rfl rfl (fun K hK => ?_)
          simp only [putAll, z1, z2, z3, z4, z5]
          refine ⟨?_⟩
          go_simp
          exact hK _ _ ⟨[s9, s55, s56, (.int .i64 (i : Int)), (.int .i64 (j : Int)), s59, s60, s61, s62, s63, s64, s65, s66, s67, s68], by simp only [putAll, z1, z2], s9, s55, s56, (.int .i64 (i : Int)), (.int .i64 (j : Int)), s59, s60, s61, s62, s63, s64, s65, s66, s67, s68, c_b5, rfl, lk h0, lk h1, fun _ => rfl, lk h3, lk h4, lk h5, lk h6, lk h7, lk h8, lk h9, lk h10, lk h11, lk h12, lk h13, lk h14, lk h15, listed_keepF (by decide) hO_b5, fun h => by rw [getD_keep (show 2 ≠ 14 by decide)] at h; rw [getD_keep (show 2 ≠ 0 by decide)]; exact hW_b5_0 h, hz0, HF⟩
        · have d2 := h2 (hd 2 (by kernel_rfl))
          obtain rfl := d2
          refine wpOp_want rfl rfl (fun K hK => ?_)
          simp only [putAll, z1, z2, z3, z4, z5]
          refine ⟨?_⟩
          go_simp
          exact hK _ _ ⟨[s9, s55, s56, s57, (.int .i64 (j : Int)), (.pointer (some ⟨b2, j, none⟩)), s60, s61, s62, s63, s64, s65, s66, s67, s68], by simp only [putAll, z1, z2], s9, s55, s56, s57, (.int .i64 (j : Int)), (.pointer (some ⟨b2, j, none⟩)), s60, s61, s62, s63, s64, s65, s66, s67, s68, c_b5, rfl, lk h0, lk h1, lk h2, fun _ => rfl, lk h4, lk h5, lk h6, lk h7, lk h8, lk h9, lk h10, lk h11, lk h12, lk h13, lk h14, lk h15, listed_keepF (by decide) hO_b5, fun h => by rw [getD_keep (show 3 ≠ 14 by decide)] at h; rw [getD_keep (show 3 ≠ 0 by decide)]; exact hW_b5_0 h, hz0, HF⟩
        · have d3 := h3 (hd 3 (by kernel_rfl))
          obtain rfl := d3
          refine wpOp_want rfl rfl (fun K hK => ?_)
          simp only [putAll, z1, z2, z3, z4, z5]
          have cF := BlkAt.cell (Fr.get HF (b := b2) (cs := limA 32 a) (by (exact tL))) (ca)
          refine ⟨?_⟩
          go_simp
          exact hK _ _ ⟨[s9, s55, s56, s57, s58, (.pointer (some ⟨b2, j, none⟩)), (.int .u32 (x : Int)), s61, s62, s63, s64, s65, s66, s67, s68], by simp only [putAll, z1, z2], s9, s55, s56, s57, s58, (.pointer (some ⟨b2, j, none⟩)), (.int .u32 (x : Int)), s61, s62, s63, s64, s65, s66, s67, s68, c_b5, rfl, lk h0, lk h1, lk h2, lk h3, fun _ => rfl, lk h5, lk h6, lk h7, lk h8, lk h9, lk h10, lk h11, lk h12, lk h13, lk h14, lk h15, listed_keepF (by decide) hO_b5, fun h => by rw [getD_keep (show 4 ≠ 14 by decide)] at h; rw [getD_keep (show 4 ≠ 0 by decide)]; exact hW_b5_0 h, hz0, HF⟩
        · refine wpOp_want rfl rfl (fun K hK => ?_)
          simp only [putAll, z1, z2, z3, z4, z5]
          refine ⟨?_⟩
          go_simp
          exact hK _ _ ⟨[s9, s55, s56, s57, s58, s59, s60, (.int .i64 (i : Int)), s62, s63, s64, s65, s66, s67, s68], by simp only [putAll, z1, z2], s9, s55, s56, s57, s58, s59, s60, (.int .i64 (i : Int)), s62, s63, s64, s65, s66, s67, s68, c_b5, rfl, lk h0, lk h1, lk h2, lk h3, lk h4, fun _ => rfl, lk h6, lk h7, lk h8, lk h9, lk h10, lk h11, lk h12, lk h13, lk h14, lk h15, listed_keepF (by decide) hO_b5, fun h => by rw [getD_keep (show 5 ≠ 14 by decide)] at h; rw [getD_keep (show 5 ≠ 0 by decide)]; exact hW_b5_0 h, hz0, HF⟩
        · have d5 := h5 (hd 5 (by kernel_rfl))
          obtain rfl := d5
          refine wpOp_want rfl rfl (fun K hK => ?_)
          simp only [putAll, z1, z2, z3, z4, z5]
          refine ⟨?_⟩
          go_simp
          exact hK _ _ ⟨[s9, s55, s56, s57, s58, s59, s60, (.int .i64 (i : Int)), (.int .i64 (s : Int)), s63, s64, s65, s66, s67, s68], by simp only [putAll, z1, z2], s9, s55, s56, s57, s58, s59, s60, (.int .i64 (i : Int)), (.int .i64 (s : Int)), s63, s64, s65, s66, s67, s68, c_b5, rfl, lk h0, lk h1, lk h2, lk h3, lk h4, lk h5, fun _ => rfl, lk h7, lk h8, lk h9, lk h10, lk h11, lk h12, lk h13, lk h14, lk h15, listed_keepF (by decide) hO_b5, fun h => by rw [getD_keep (show 6 ≠ 14 by decide)] at h; rw [getD_keep (show 6 ≠ 0 by decide)]; exact hW_b5_0 h, hz0, HF⟩
        · have d6 := h6 (hd 6 (by kernel_rfl))
          obtain rfl := d6
          refine wpOp_want rfl rfl (fun K hK => ?_)
          simp only [putAll, z1, z2, z3, z4, z5]
          refine ⟨?_⟩
          go_simp
          exact hK _ _ ⟨[s9, s55, s56, s57, s58, s59, s60, s61, (.int .i64 (s : Int)), (.int .u64 (s : Int)), s64, s65, s66, s67, s68], by simp only [putAll, z1, z2], s9, s55, s56, s57, s58, s59, s60, s61, (.int .i64 (s : Int)), (.int .u64 (s : Int)), s64, s65, s66, s67, s68, c_b5, rfl, lk h0, lk h1, lk h2, lk h3, lk h4, lk h5, lk h6, fun _ => rfl, lk h8, lk h9, lk h10, lk h11, lk h12, lk h13, lk h14, lk h15, listed_keepF (by decide) hO_b5, fun h => by rw [getD_keep (show 7 ≠ 14 by decide)] at h; rw [getD_keep (show 7 ≠ 0 by decide)]; exact hW_b5_0 h, hz0, HF⟩
        · have d4 := h4 (hd 4 (by kernel_rfl))
          have d7 := h7 (hd 7 (by kernel_rfl))
          obtain rfl := d4
          obtain rfl := d7
          refine wpOp_want rfl rfl (fun K hK => ?_)
          simp only [putAll, z1, z2, z3, z4, z5]
          clear d1 d2 d3 d4 d5 d6 i0 j0 j1 hj32 wj1 wj2 wj3 ws3 hj5 hs5 hs33
          refine ⟨?_⟩
          go_simp
          exact hK _ _ ⟨[s9, s55, s56, s57, s58, s59, (.int .u32 (x : Int)), s61, s62, (.int .u64 (s : Int)), (.int .u32 (p : Int)), s65, s66, s67, s68], by simp only [putAll, z1, z2], s9, s55, s56, s57, s58, s59, (.int .u32 (x : Int)), s61, s62, (.int .u64 (s : Int)), (.int .u32 (p : Int)), s65, s66, s67, s68, c_b5, rfl, lk h0, lk h1, lk h2, lk h3, lk h4, lk h5, lk h6, lk h7, fun _ => rfl, lk h9, lk h10, lk h11, lk h12, lk h13, lk h14, lk h15, listed_keepF (by decide) hO_b5, fun h => by rw [getD_keep (show 8 ≠ 14 by decide)] at h; rw [getD_keep (show 8 ≠ 0 by decide)]; exact hW_b5_0 h, hz0, HF⟩
        · have d8 := h8 (hd 8 (by kernel_rfl))
          obtain rfl := d8
          refine wpOp_want rfl rfl (fun K hK => ?_)
          simp only [putAll, z1, z2, z3, z4, z5]
          refine ⟨?_⟩
          go_simp
          exact hK _ _ ⟨[s9, s55, s56, s57, s58, s59, s60, s61, s62, s63, (.int .u32 (p : Int)), (.int .u32 (bit : Int)), s66, s67, s68], by simp only [putAll, z1, z2], s9, s55, s56, s57, s58, s59, s60, s61, s62, s63, (.int .u32 (p : Int)), (.int .u32 (bit : Int)), s66, s67, s68, c_b5, rfl, lk h0, lk h1, lk h2, lk h3, lk h4, lk h5, lk h6, lk h7, lk h8, fun _ => rfl, lk h10, lk h11, lk h12, lk h13, lk h14, lk h15, listed_keepF (by decide) hO_b5, fun h => by rw [getD_keep (show 9 ≠ 14 by decide)] at h; rw [getD_keep (show 9 ≠ 0 by decide)]; exact hW_b5_0 h, hz0, HF⟩
        · have d0 := h0 (hd 0 (by kernel_rfl))
          have d9 := h9 (hd 9 (by kernel_rfl))
          obtain rfl := d0
          obtain rfl := d9
          refine wpOp_want rfl rfl (fun K hK => ?_)
          simp only [putAll, z1, z2, z3, z4, z5]
          refine ⟨?_⟩
          go_simp
          with_reducible refine fr_call HF (g3 _) ?_
          clear HF
          intro W HF
          (try dsimp only)
          exact hK _ _ ⟨[s9, s55, (.agg (limA 32 rk)), s57, s58, s59, s60, s61, s62, s63, s64, (.int .u32 (bit : Int)), (.tuple #[.agg (limA 32 R'), .bool lost]), s67, s68], by simp only [putAll, z1, z2], s9, s55, (.agg (limA 32 rk)), s57, s58, s59, s60, s61, s62, s63, s64, (.int .u32 (bit : Int)), (.tuple #[.agg (limA 32 R'), .bool lost]), s67, s68, c_b5, rfl, lk h0, lk h1, lk h2, lk h3, lk h4, lk h5, lk h6, lk h7, lk h8, lk h9, fun _ => rfl, lk h11, lk h12, lk h13, lk h14, lk h15, listed_keepF (by decide) hO_b5, fun h => by rw [getD_keep (show 10 ≠ 14 by decide)] at h; rw [getD_keep (show 10 ≠ 0 by decide)]; exact hW_b5_0 h, hz0, HF⟩
        · have d10 := h10 (hd 10 (by kernel_rfl))
          obtain rfl := d10
          refine wpOp_want rfl rfl (fun K hK => ?_)
          simp only [putAll, z1, z2, z3, z4, z5]
          refine ⟨?_⟩
          go_simp
          exact hK _ _ ⟨[s9, (.tuple #[.agg (limA 32 R'), .bool lost]), s56, s57, s58, s59, s60, s61, s62, s63, s64, s65, (.tuple #[.agg (limA 32 R'), .bool lost]), s67, s68], by simp only [putAll, z1, z2], s9, (.tuple #[.agg (limA 32 R'), .bool lost]), s56, s57, s58, s59, s60, s61, s62, s63, s64, s65, (.tuple #[.agg (limA 32 R'), .bool lost]), s67, s68, c_b5, rfl, lk h0, lk h1, lk h2, lk h3, lk h4, lk h5, lk h6, lk h7, lk h8, lk h9, lk h10, fun _ => rfl, lk h12, lk h13, lk h14, lk h15, listed_keepF (by decide) hO_b5, fun h => by rw [getD_keep (show 11 ≠ 14 by decide)] at h; rw [getD_keep (show 11 ≠ 0 by decide)]; exact hW_b5_0 h, hz0, HF⟩
        · have d11 := h11 (hd 11 (by kernel_rfl))
          obtain rfl := d11
          refine wpOp_want rfl rfl (fun K hK => ?_)
          simp only [putAll, z1, z2, z3, z4, z5]
          refine ⟨?_⟩
          go_simp
          exact hK _ _ ⟨[s9, (.tuple #[.agg (limA 32 R'), .bool lost]), s56, s57, s58, s59, s60, s61, s62, s63, s64, s65, s66, (.agg (limA 32 R')), s68], by simp only [putAll, z1, z2], s9, (.tuple #[.agg (limA 32 R'), .bool lost]), s56, s57, s58, s59, s60, s61, s62, s63, s64, s65, s66, (.agg (limA 32 R')), s68, c_b5, rfl, lk h0, lk h1, lk h2, lk h3, lk h4, lk h5, lk h6, lk h7, lk h8, lk h9, lk h10, lk h11, fun _ => rfl, lk h13, lk h14, lk h15, listed_keepF (by decide) hO_b5, fun h => by rw [getD_keep (show 12 ≠ 14 by decide)] at h; rw [getD_keep (show 12 ≠ 0 by decide)]; exact hW_b5_0 h, hz0, HF⟩
        · have d11 := h11 (hd 11 (by kernel_rfl))
          obtain rfl := d11
          refine wpOp_want rfl rfl (fun K hK => ?_)
          simp only [putAll, z1, z2, z3, z4, z5]
          refine ⟨?_⟩
          go_simp
          exact hK _ _ ⟨[s9, (.tuple #[.agg (limA 32 R'), .bool lost]), s56, s57, s58, s59, s60, s61, s62, s63, s64, s65, s66, s67, (.bool lost)], by simp only [putAll, z1, z2], s9, (.tuple #[.agg (limA 32 R'), .bool lost]), s56, s57, s58, s59, s60, s61, s62, s63, s64, s65, s66, s67, (.bool lost), c_b5, rfl, lk h0, lk h1, lk h2, lk h3, lk h4, lk h5, lk h6, lk h7, lk h8, lk h9, lk h10, lk h11, lk h12, fun _ => rfl, lk h14, lk h15, listed_keepF (by decide) hO_b5, fun h => by rw [getD_keep (show 13 ≠ 14 by decide)] at h; rw [getD_keep (show 13 ≠ 0 by decide)]; exact hW_b5_0 h, hz0, HF⟩
        · have d12 := h12 (hd 12 (by kernel_rfl))
          obtain rfl := d12
          refine wpOp_want rfl rfl (fun K hK => ?_)
          simp only [putAll, z1, z2, z3, z4, z5]
          with_reducible apply gS HF
          · exact rfl
          · exact rfl
          · (exact tL)
          · (first | (exact tR3))
          · first | exact hz0 | exact tS2
          clear HF
          intro W HF
          simp only [z7, z8, List.append_assoc, List.append_nil] at HF
          go_simp
          exact hK _ _ ⟨[s9, s55, s56, s57, s58, s59, s60, s61, s62, s63, s64, s65, s66, (.agg (limA 32 R')), s68], by simp only [putAll, z1, z2], s9, s55, s56, s57, s58, s59, s60, s61, s62, s63, s64, s65, s66, (.agg (limA 32 R')), s68, (limA 32 R'), rfl, lk h0, lk h1, lk h2, lk h3, lk h4, lk h5, lk h6, lk h7, lk h8, lk h9, lk h10, lk h11, lk h12, lk h13, fun _ => rfl, lk h15, fun h => absurd h (by rw [getD_on (show 14 < listed.size by rw [hsz2]; decide)]; decide), fun _ => by rw [getD_keep (show 14 ≠ 0 by decide)]; exact hd 0 (by kernel_rfl), rfl, HF⟩
        · have d13 := h13 (hd 13 (by kernel_rfl))
          obtain rfl := d13
          refine wpOp_want rfl rfl (fun K hK => ?_)
          simp only [putAll, z1, z2, z3, z4, z5]
          refine ⟨?_⟩
          go_simp
          exact hK _ _ ⟨[(.bool lost), s55, s56, s57, s58, s59, s60, s61, s62, s63, s64, s65, s66, s67, (.bool lost)], by simp only [putAll, z1, z2], (.bool lost), s55, s56, s57, s58, s59, s60, s61, s62, s63, s64, s65, s66, s67, (.bool lost), c_b5, rfl, lk h0, lk h1, lk h2, lk h3, lk h4, lk h5, lk h6, lk h7, lk h8, lk h9, lk h10, lk h11, lk h12, lk h13, lk h14, fun _ => rfl, listed_keepF (by decide) hO_b5, fun h => by rw [getD_keep (show 15 ≠ 14 by decide)] at h; rw [getD_keep (show 15 ≠ 0 by decide)]; exact hW_b5_0 h, hz0, HF⟩
      rintro listed mm W ⟨s9, s55, s56, s57, s58, s59, s60, s61, s62, s63, s64, s65, s66, s67, s68, c_b5, rfl, h0, h1, h2, h3, h4, h5, h6, h7, h8, h9, h10, h11, h12, h13, h14, h15, hO_b5, hW_b5_0, hz0, HF⟩ hall
      obtain rfl := h0 (hall 0 (by decide))
      obtain rfl := h1 (hall 1 (by decide))
      obtain rfl := h2 (hall 2 (by decide))
      obtain rfl := h3 (hall 3 (by decide))
      obtain rfl := h4 (hall 4 (by decide))
      obtain rfl := h5 (hall 5 (by decide))
      obtain rfl := h6 (hall 6 (by decide))
      obtain rfl := h7 (hall 7 (by decide))
      obtain rfl := h8 (hall 8 (by decide))
      obtain rfl := h9 (hall 9 (by decide))
      obtain rfl := h10 (hall 10 (by decide))
      obtain rfl := h11 (hall 11 (by decide))
      obtain rfl := h12 (hall 12 (by decide))
      obtain rfl := h13 (hall 13 (by decide))
      rw [h14 (hall 14 (by decide))] at HF
      obtain rfl := h15 (hall 15 (by decide))
      clear hall h0 h1 h2 h3 h4 h5 h6 h7 h8 h9 h10 h11 h12 h13 h14 h15 hO_b5 hW_b5_0 hz0 F
      have F := HF
      clear HF
      simp only [putAll, z1, z2]
      have HJ := Lib.hid (And.intro hj32 (And.intro hj5 (And.intro hs5 (And.intro hs33 (And.intro d1 d2)))))
      clear g3 m1 m2 ca d1 d2 d3 d4 d5 d6 i0 j0 j1 hj32 wj1 wj2 wj3 ws3 hj5 hs5 hs33 hmin
      have hi : i ≤ 1024 := HI0.out
      rcases HST.out.2.2.1 with ⟨rfl, hbR⟩ | ⟨rfl, t1, hbR⟩ | ⟨rfl, t1, hlt, hRR⟩
      · skip
        have g5 := HST.out.2.2.2 hbR
        have HN := Lib.hid (And.intro (HST.out.2.1 hbR).1 (And.intro (HST.out.2.1 hbR).2 (And.intro HQQ.out.2.2.2.2.2.2 hi)))
        clear HST hbR hi
        go_upto_region 14 with (first | go_skip | ((go_at_call 95); (with_reducible refine fr_call F (g4 _) ?_); (clear F; intro W F); (try dsimp only)) | ((go_at_call 127); (with_reducible refine fr_call F (g5 _) ?_); (clear F; intro W F); (try dsimp only)) | ((with_reducible apply fL F); exact rfl; exact rfl; (exact tL); (exact tR3)) | ((with_reducible apply fA_arr F); exact rfl) | ((with_reducible apply fX_arr F); exact rfl; exact rfl) | ((with_reducible apply fS F); exact rfl; exact rfl; exact rfl; (exact tL); (exact tR3); (exact tS2); clear F; intro W F; simp only [z7, z8] at F))
        clear g4 g5
        obtain ⟨q1, q2, q3, hy, hP, -, -⟩ := HQQ.out
        obtain ⟨hj32, hj5, hs5, hs32, d1, d2⟩ := HJ.out
        have c4 := (F.get (b := b4) tL).cell (limA_at (n := 32) (m := qk) hj32)
        rw [hy] at c4
        have f4 := BlkAt.fz (F.get (b := b4) tL) j
        obtain ⟨o, ho⟩ : ∃ o, y + P = o := ⟨_, rfl⟩
        rw [ho] at q1 q2 q3
        have HW := (F.cellA (A := [(b5, limA 32 (R - b), 27)]) j (.int .u32 o)).is2 (limA_set q2)
        rw [q3] at HW
        have HWW := Lib.hid HW
        have hP1 : P < 4294967296 := by omega
        have hy1 : y < 4294967296 := by omega
        have m6 : IntKind.u32.wrap (P : Int) = (P : Int) := by rw [IntKind.wrap_u32]; omega
        have m7 : (2 : Int) ^ s = (P : Int) := by rw [← hP]; push_cast; rfl
        have mo : bits .or .u32 (y : Int) (P : Int) = (o : Int) := by rw [u32_or_nat y P hy1 hP1, q1]
        have hmin : min s 32 = s := Nat.min_eq_left (by omega)
        have d5 : (i : Int).tdiv 32 = (j : Int) := d1
        have d6 : (i : Int).tmod 32 = (s : Int) := d2
        have j0 : (0 : Int) ≤ (j : Int) := by omega
        have j1 : (j : Int) < 32 := by omega
        obtain ⟨wj1, wj2, wj3⟩ := wraps hj5
        obtain ⟨-, -, ws3⟩ := wraps hs5
        clear HW F q1 q2 q3 ho hP hP1 hy1 hj32 hj5 hs5 hs32 HQQ HJ
        go_wp2_with fail
        go_roundw
        case rel => exact ⟨i, _, _, HN.out.2.2.1, by first | rfl | exact congrArg (Value.int .i64) (wrap_pred HN.out.2.2.2), HN.out.1, HN.out.2.1, HWW.out⟩
        case measure => first | exact meas_down HN.out.2.2.2 | exact meas_down2 i
      · skip
        have g5 := HST.out.2.2.2 hbR
        have HN := Lib.hid (And.intro (HST.out.2.1 hbR).1 (And.intro (HST.out.2.1 hbR).2 (And.intro HQQ.out.2.2.2.2.2.2 hi)))
        clear HST hbR hi
        go_upto_region 14 with (first | go_skip | ((go_at_call 95); (with_reducible refine fr_call F (g4 _) ?_); (clear F; intro W F); (try dsimp only)) | ((go_at_call 127); (with_reducible refine fr_call F (g5 _) ?_); (clear F; intro W F); (try dsimp only)) | ((with_reducible apply fL F); exact rfl; exact rfl; (exact tL); (exact tR3)) | ((with_reducible apply fA_arr F); exact rfl) | ((with_reducible apply fX_arr F); exact rfl; exact rfl) | ((with_reducible apply fS F); exact rfl; exact rfl; exact rfl; (exact tL); (exact tR3); (exact tS2); clear F; intro W F; simp only [z7, z8] at F))
        clear g4 g5
        obtain ⟨q1, q2, q3, hy, hP, -, -⟩ := HQQ.out
        obtain ⟨hj32, hj5, hs5, hs32, d1, d2⟩ := HJ.out
        have c4 := (F.get (b := b4) tL).cell (limA_at (n := 32) (m := qk) hj32)
        rw [hy] at c4
        have f4 := BlkAt.fz (F.get (b := b4) tL) j
        obtain ⟨o, ho⟩ : ∃ o, y + P = o := ⟨_, rfl⟩
        rw [ho] at q1 q2 q3
        have HW := (F.cellA (A := [(b5, limA 32 (R - b), 27)]) j (.int .u32 o)).is2 (limA_set q2)
        rw [q3] at HW
        have HWW := Lib.hid HW
        have hP1 : P < 4294967296 := by omega
        have hy1 : y < 4294967296 := by omega
        have m6 : IntKind.u32.wrap (P : Int) = (P : Int) := by rw [IntKind.wrap_u32]; omega
        have m7 : (2 : Int) ^ s = (P : Int) := by rw [← hP]; push_cast; rfl
        have mo : bits .or .u32 (y : Int) (P : Int) = (o : Int) := by rw [u32_or_nat y P hy1 hP1, q1]
        have hmin : min s 32 = s := Nat.min_eq_left (by omega)
        have d5 : (i : Int).tdiv 32 = (j : Int) := d1
        have d6 : (i : Int).tmod 32 = (s : Int) := d2
        have j0 : (0 : Int) ≤ (j : Int) := by omega
        have j1 : (j : Int) < 32 := by omega
        obtain ⟨wj1, wj2, wj3⟩ := wraps hj5
        obtain ⟨-, -, ws3⟩ := wraps hs5
        clear HW F q1 q2 q3 ho hP hP1 hy1 hj32 hj5 hs5 hs32 HQQ HJ
        go_wp2_with fail
        go_roundw
        case rel => exact ⟨i, _, _, HN.out.2.2.1, by first | rfl | exact congrArg (Value.int .i64) (wrap_pred HN.out.2.2.2), HN.out.1, HN.out.2.1, HWW.out⟩
        case measure => first | exact meas_down HN.out.2.2.2 | exact meas_down2 i
      · subst hRR
        have HN := Lib.hid (And.intro (HST.out.1 hlt).1 (And.intro (HST.out.1 hlt).2 (And.intro HQQ.out.2.2.2.2.2.2 hi)))
        clear HST hlt HQQ
        go_wp2_with (first | go_skip | ((go_at_call 95); (with_reducible refine fr_call F (g4 _) ?_); (clear F; intro W F); (try dsimp only)) | ((with_reducible apply fL F); exact rfl; exact rfl; (exact tL); (exact tR3)) | ((with_reducible apply fA_arr F); exact rfl) | ((with_reducible apply fX_arr F); exact rfl; exact rfl) | ((with_reducible apply fS F); exact rfl; exact rfl; exact rfl; (exact tL); (exact tR3); (exact tS2); clear F; intro W F; simp only [z7, z8] at F))
        go_roundw
        case rel => exact ⟨i, _, _, HN.out.2.2.1, by first | rfl | exact congrArg (Value.int .i64) (wrap_pred HN.out.2.2.2), HN.out.1, HN.out.2.1, F⟩
        case measure => first | exact meas_down HN.out.2.2.2 | exact meas_down2 i
end
section
open Go.RowKit
set_option maxHeartbeats 4000000
theorem IC_ng (z : Int) : (IC z)[0]? = some (.bool (decide (z < 0))) := intC_neg _ _
set_option maxRecDepth 100000 in
theorem rdivmodZ {x y : Int} (hx : x.natAbs < bp 32) (hy : y.natAbs < bp 32) (h0 : y ≠ 0) (w : World) : Calls Tryz.prog 76 #[.agg (IC x), .agg (IC y)] w (RetB (.tuple #[.agg (IC (x / y)), .agg (IC (x % y)), .int .i64 0]) w) := by
  have F := Fr.start w
  have hy0 : y.natAbs ≠ 0 := by omega
  have hdm : x.natAbs / y.natAbs ≤ x.natAbs := Nat.div_le_self _ _
  have hmm : x.natAbs % y.natAbs < y.natAbs := Nat.mod_lt _ (by omega)
  have hS := divS (x := x) h0
  have hN := divN (x := x) h0
  have hC := divC (x := x) h0
  have hD : x.natAbs % y.natAbs ≠ 0 → x.natAbs / y.natAbs + 1 ≤ x.natAbs := fun h => by
    have h1 : 1 < y.natAbs := by
      rcases Nat.lt_or_ge 1 y.natAbs with h1 | h1
      · exact h1
      · have : y.natAbs = 1 := by omega
        rw [this, Nat.mod_one] at h
        exact absurd rfl h
    have h2 : 0 < x.natAbs := by
      rcases Nat.eq_zero_or_pos x.natAbs with h2 | h2
      · rw [h2, Nat.zero_mod] at h
        exact absurd rfl h
      · exact h2
    exact Nat.div_lt_self h2 h1
  have cx := IC_ng x
  have cy := IC_ng y
  obtain ⟨c, hc⟩ : ∃ c, x.natAbs / y.natAbs = c := ⟨_, rfl⟩
  obtain ⟨d, hd⟩ : ∃ d, x.natAbs % y.natAbs = d := ⟨_, rfl⟩
  have gd := fun w => rdivide_any hx hy hy0 hc hd w
  have gz := fun w => rzero_any hy (z := false) (decide_eq_false hy0) w
  rw [hc, hd] at hD hN hC
  rw [hc] at hdm
  rw [hd] at hmm
  have ld : d < bp 32 := by omega
  have lc : c < bp 32 := by omega
  have gn := fun w => rzero_any ld (z := decide (d = 0)) rfl w
  obtain ⟨p, hp⟩ : ∃ p, decide (x < 0) = p := ⟨_, rfl⟩
  obtain ⟨q, hq⟩ : ∃ q, decide (y < 0) = q := ⟨_, rfl⟩
  rw [hp] at cx hS
  rw [hq] at cy hS
  have hcs : ∃ c' d' : Nat, c' < bp 32 ∧ d' < bp 32 ∧ c' = (x / y).natAbs ∧ (d' : Int) = x % y ∧ (if p = true ∧ d ≠ 0 then c' = c + 1 ∧ d' = y.natAbs - d ∧ c + 1 < bp 32 else c' = c ∧ d' = d) := by
    by_cases h : p = true ∧ d ≠ 0
    · have h1 : x < 0 := by simpa [h.1] using hp
      obtain ⟨e1, e2⟩ := hC ⟨h1, h.2⟩
      have := hD h.2
      exact ⟨c + 1, y.natAbs - d, by omega, by omega, e1, e2, by rw [if_pos h]; exact ⟨rfl, rfl, by omega⟩⟩
    · have h1 : ¬ (x < 0 ∧ d ≠ 0) := fun h1 => h ⟨by simpa [h1.1] using hp.symm, h1.2⟩
      obtain ⟨e1, e2⟩ := hN h1
      exact ⟨c, d, lc, ld, e1, e2, by rw [if_neg h]; exact ⟨rfl, rfl⟩⟩
  obtain ⟨c', d', lc', ld', hcc, hdd, hif⟩ := hcs
  have m1 := fun w => rcanonZ (n := p != q) lc' hcc hS.1 hS.2 w
  have m2 := fun w => rcanonZ (n := false) (x := x % y) ld' (by omega) (by omega) (fun _ => rfl) w
  have HI := Lib.hid hif
  have HX := Lib.hid (And.intro hx (And.intro hy hmm))
  clear hc hd hS hN hC hD hp hq hif hcc hdd hx hy h0 hmm hdm
  go_enter Tryz.func76, Tryz.ntmps76
  go_wp2_with (first | go_skip | ((with_reducible apply fL F); exact rfl; exact rfl; (exact tL); (exact tR3)) | ((with_reducible apply fLm F); exact rfl; exact rfl; (exact tL); (exact tM3); (exact tR3)) | ((with_reducible apply fA_int F); exact rfl) | ((with_reducible apply fX_int F); exact rfl; exact rfl) | ((with_reducible apply fA_arr F); exact rfl) | ((with_reducible apply fS F); exact rfl; exact rfl; exact rfl; (exact tL); (exact tR3); (exact tS2); clear F; intro W F; simp only [z7, z8] at F) | ((with_reducible apply fB_int0); exact rfl))
  (clear F; intro b2 W F; try simp only [Act.put, z6, z1, z2])
  go_wp2_with (first | go_skip | ((with_reducible apply fL F); exact rfl; exact rfl; (exact tL); (exact tR3)) | ((with_reducible apply fLm F); exact rfl; exact rfl; (exact tL); (exact tM3); (exact tR3)) | ((with_reducible apply fA_int F); exact rfl) | ((with_reducible apply fX_int F); exact rfl; exact rfl) | ((with_reducible apply fA_arr F); exact rfl) | ((with_reducible apply fS F); exact rfl; exact rfl; exact rfl; (exact tL); (exact tR3); (exact tS2); clear F; intro W F; simp only [z7, z8] at F) | ((with_reducible apply fB_int0); exact rfl))
  (clear F; intro b3 W F; try simp only [Act.put, z6, z1, z2])
  go_wp2_with (first | go_skip | ((with_reducible apply fL F); exact rfl; exact rfl; (exact tL); (exact tR3)) | ((with_reducible apply fLm F); exact rfl; exact rfl; (exact tL); (exact tM3); (exact tR3)) | ((with_reducible apply fA_int F); exact rfl) | ((with_reducible apply fX_int F); exact rfl; exact rfl) | ((with_reducible apply fA_arr F); exact rfl) | ((with_reducible apply fS F); exact rfl; exact rfl; exact rfl; (exact tL); (exact tR3); (exact tS2); clear F; intro W F; simp only [z7, z8] at F) | ((with_reducible apply fB_int0); exact rfl))
  (clear F; intro b4 W F; try simp only [Act.put, z6, z1, z2])
  go_wp2_with (first | go_skip | ((with_reducible apply fL F); exact rfl; exact rfl; (exact tL); (exact tR3)) | ((with_reducible apply fLm F); exact rfl; exact rfl; (exact tL); (exact tM3); (exact tR3)) | ((with_reducible apply fA_int F); exact rfl) | ((with_reducible apply fX_int F); exact rfl; exact rfl) | ((with_reducible apply fA_arr F); exact rfl) | ((with_reducible apply fS F); exact rfl; exact rfl; exact rfl; (exact tL); (exact tR3); (exact tS2); clear F; intro W F; simp only [z7, z8] at F) | ((with_reducible apply fB_int0); exact rfl))
  (clear F; intro b5 W F; try simp only [Act.put, z6, z1, z2])
  go_wp2_with (first | go_skip | ((go_at_call 125); (with_reducible refine fr_call F (gz _) ?_); (clear F; intro W F); (try dsimp only)) | ((go_at_call 126); (with_reducible refine fr_call F (gd _) ?_); (clear F; intro W F); (try dsimp only)) | ((with_reducible apply fL F); exact rfl; exact rfl; (exact tL); (exact tR3)) | ((with_reducible apply fLm F); exact rfl; exact rfl; (exact tL); (exact tM3); (exact tR3)) | ((with_reducible apply fA_int F); exact rfl) | ((with_reducible apply fX_int F); exact rfl; exact rfl) | ((with_reducible apply fA_arr F); exact rfl) | ((with_reducible apply fS F); exact rfl; exact rfl; exact rfl; (exact tL); (exact tR3); (exact tS2); clear F; intro W F; simp only [z7, z8] at F) | ((with_reducible apply fB_int0); exact rfl))
  (clear F; intro b7 W F; try simp only [Act.put, z6, z1, z2])
  go_wp2_with (first | go_skip | ((with_reducible apply fL F); exact rfl; exact rfl; (exact tL); (exact tR3)) | ((with_reducible apply fLm F); exact rfl; exact rfl; (exact tL); (exact tM3); (exact tR3)) | ((with_reducible apply fA_int F); exact rfl) | ((with_reducible apply fX_int F); exact rfl; exact rfl) | ((with_reducible apply fA_arr F); exact rfl) | ((with_reducible apply fS F); exact rfl; exact rfl; exact rfl; (exact tL); (exact tR3); (exact tS2); clear F; intro W F; simp only [z7, z8] at F) | ((with_reducible apply fB_int0); exact rfl))
  (clear F; intro b8 W F; try simp only [Act.put, z6, z1, z2])
  go_upto_region 4 with (first | go_skip | ((with_reducible apply fL F); exact rfl; exact rfl; (exact tL); (exact tR3)) | ((with_reducible apply fLm F); exact rfl; exact rfl; (exact tL); (exact tM3); (exact tR3)) | ((with_reducible apply fA_int F); exact rfl) | ((with_reducible apply fX_int F); exact rfl; exact rfl) | ((with_reducible apply fA_arr F); exact rfl) | ((with_reducible apply fS F); exact rfl; exact rfl; exact rfl; (exact tL); (exact tR3); (exact tS2); clear F; intro W F; simp only [z7, z8] at F) | ((with_reducible apply fB_int0); exact rfl))
  have c0 := (F.get (b := b2) tL).cell cx
  by_cases hcase : p = true ∧ d ≠ 0
  · obtain ⟨rfl, hdne⟩ := hcase
    have hi := HI.out
    rw [if_pos ⟨rfl, hdne⟩] at hi
    obtain ⟨rfl, rfl, hl⟩ := hi
    rw [decide_eq_false hdne] at gn
    have mi := fun w => rdiff_le HX.out.2.1 ld (Nat.le_of_lt HX.out.2.2) w
    have pl := fun w => rsum_any lc (show 1 < bp 32 by decide) (Nat.mod_eq_of_lt hl) (decide_eq_true hl) w
    have mo : (true != q) = !q := by cases q <;> rfl
    rw [mo] at m1
    clear HI hl hdne mo
    go_wp2_with (first | go_skip | ((go_at_call 125); (with_reducible refine fr_call F (gn _) ?_); (clear F; intro W F); (try dsimp only)) | ((go_at_call 127); (with_reducible refine fr_call F (mi _) ?_); (clear F; intro W F); (try dsimp only)) | ((with_reducible apply fL F); exact rfl; exact rfl; (exact tL); (exact tR3)) | ((with_reducible apply fLm F); exact rfl; exact rfl; (exact tL); (exact tM3); (exact tR3)) | ((with_reducible apply fA_int F); exact rfl) | ((with_reducible apply fX_int F); exact rfl; exact rfl) | ((with_reducible apply fA_arr F); exact rfl) | ((with_reducible apply fS F); exact rfl; exact rfl; exact rfl; (exact tL); (exact tR3); (exact tS2); clear F; intro W F; simp only [z7, z8] at F) | ((with_reducible apply fB_int0); exact rfl))
    (clear F; intro b9 W F; try simp only [Act.put, z6, z1, z2])
    clear c0
    have c1 := (F.get (b := b9) Lies.here).cell (limA_at (n := 32) (m := 0) (j := 0) (by decide))
    have f1 := BlkAt.fz (F.get (b := b9) Lies.here) 0
    have FN := Lib.hid ((F.cellA (A := []) 0 (.int .u32 1)).is (limA_set (by decide)))
    go_upto_region 8 with fail
    clear F c1 f1
    have F := FN.out
    rw [show setM 0 0 1 = 1 by simp [setM, bp]] at F
    clear FN
    generalize World.setCell _ _ _ = W9 at *
    go_wp2_with (first | go_skip | ((go_at_call 128); (with_reducible refine fr_call F (pl _) ?_); (clear F; intro W F); (try dsimp only)) | ((with_reducible apply fL F); exact rfl; exact rfl; (exact tL); (exact tR3)) | ((with_reducible apply fLm F); exact rfl; exact rfl; (exact tL); (exact tM3); (exact tR3)) | ((with_reducible apply fA_int F); exact rfl) | ((with_reducible apply fX_int F); exact rfl; exact rfl) | ((with_reducible apply fA_arr F); exact rfl) | ((with_reducible apply fS F); exact rfl; exact rfl; exact rfl; (exact tL); (exact tR3); (exact tS2); clear F; intro W F; simp only [z7, z8] at F) | ((with_reducible apply fB_int0); exact rfl))
    try simp only [Act.put, z6, z1, z2]
    refine wp_region_slots mixP [6, 41, 42, 43, 44, 45, 46, 47, 48, 49] (fun l mm W => ∃ (s6 s41 s42 s43 s44 s45 s46 s47 s48 s49 : Value) (c_b4 c_b5 : Array Value), mm = [s6, s41, s42, s43, s44, s45, s46, s47, s48, s49] ∧ (l.getD 0 false = true → s41 = .pointer (some ⟨b2, 0, none⟩)) ∧ (l.getD 1 false = true → s42 = .bool true) ∧ (l.getD 2 false = true → s43 = .pointer (some ⟨b3, 0, none⟩)) ∧ (l.getD 3 false = true → s44 = .bool q) ∧ (l.getD 4 false = true → s45 = .bool (!q)) ∧ (l.getD 5 false = true → s46 = .agg (limA 32 (c + 1))) ∧ (l.getD 6 false = true → s47 = .agg (IC (x / y))) ∧ (l.getD 7 false = true → s48 = .agg (limA 32 (y.natAbs - d))) ∧ (l.getD 8 false = true → s49 = .agg (IC (x % y))) ∧ (l.getD 9 false = true → c_b4 = IC (x / y)) ∧ (l.getD 10 false = true → c_b5 = IC (x % y)) ∧ (l.getD 11 false = true → s6 = .int .i64 0) ∧ c_b4.size = (IC (x / y)).size ∧ c_b5.size = (IC (x % y)).size ∧ Fr w W [(b9, limA 32 1, 27), (b8, limA 32 (y.natAbs - d), 27), (b7, limA 32 (c + 1), 27), (b5, c_b5, 29), (b4, c_b4, 29), (b3, IC y, 29), (b2, IC x, 29)]) (by kernel_rfl) (putAll_self _ _) ?_ ?_ ?_
    · exact ⟨_, _, _, _, _, _, _, _, _, _, (intC false 0), (intC false 0), rfl, nf, nf, nf, nf, nf, nf, nf, nf, nf, nf, nf, nf, by exact tS2, by exact tS2, F.drew⟩
    · rintro listed mm W ii hi hsz hoff ⟨s6, s41, s42, s43, s44, s45, s46, s47, s48, s49, c_b4, c_b5, rfl, h0, h1, h2, h3, h4, h5, h6, h7, h8, h9, h10, h11, hz0, hz1, HF⟩ hd
      have hc := dr_c12 hi
      have hsz2 : listed.size = 12 := hsz
      clear hi hsz
      rcases hc with rfl | rfl | rfl | rfl | rfl | rfl | rfl | rfl | rfl | rfl | rfl | rfl
      · refine wpOp_want rfl rfl (fun K hK => ?_)
        simp only [putAll, z1, z2, z3, z4, z5]
        refine ⟨?_⟩
        go_simp
        exact hK _ _ ⟨[s6, (.pointer (some ⟨b2, 0, none⟩)), s42, s43, s44, s45, s46, s47, s48, s49], by simp only [putAll, z1, z2], s6, (.pointer (some ⟨b2, 0, none⟩)), s42, s43, s44, s45, s46, s47, s48, s49, c_b4, c_b5, rfl, fun _ => rfl, lk h1, lk h2, lk h3, lk h4, lk h5, lk h6, lk h7, lk h8, lk h9, lk h10, lk h11, hz0, hz1, HF⟩
      · have d0 := h0 (hd 0 (by kernel_rfl))
        obtain rfl := d0
        refine wpOp_want rfl rfl (fun K hK => ?_)
        simp only [putAll, z1, z2, z3, z4, z5]
        have cF := BlkAt.cell (Fr.get HF (b := b2) (cs := IC x) (by (exact tL))) (cx)
        refine ⟨?_⟩
        go_simp
        exact hK _ _ ⟨[s6, (.pointer (some ⟨b2, 0, none⟩)), (.bool true), s43, s44, s45, s46, s47, s48, s49], by simp only [putAll, z1, z2], s6, (.pointer (some ⟨b2, 0, none⟩)), (.bool true), s43, s44, s45, s46, s47, s48, s49, c_b4, c_b5, rfl, lk h0, fun _ => rfl, lk h2, lk h3, lk h4, lk h5, lk h6, lk h7, lk h8, lk h9, lk h10, lk h11, hz0, hz1, HF⟩
      · refine wpOp_want rfl rfl (fun K hK => ?_)
        simp only [putAll, z1, z2, z3, z4, z5]
        refine ⟨?_⟩
        go_simp
        exact hK _ _ ⟨[s6, s41, s42, (.pointer (some ⟨b3, 0, none⟩)), s44, s45, s46, s47, s48, s49], by simp only [putAll, z1, z2], s6, s41, s42, (.pointer (some ⟨b3, 0, none⟩)), s44, s45, s46, s47, s48, s49, c_b4, c_b5, rfl, lk h0, lk h1, fun _ => rfl, lk h3, lk h4, lk h5, lk h6, lk h7, lk h8, lk h9, lk h10, lk h11, hz0, hz1, HF⟩
      · have d2 := h2 (hd 2 (by kernel_rfl))
        obtain rfl := d2
        refine wpOp_want rfl rfl (fun K hK => ?_)
        simp only [putAll, z1, z2, z3, z4, z5]
        have cF := BlkAt.cell (Fr.get HF (b := b3) (cs := IC y) (by (exact tL))) (cy)
        refine ⟨?_⟩
        go_simp
        exact hK _ _ ⟨[s6, s41, s42, (.pointer (some ⟨b3, 0, none⟩)), (.bool q), s45, s46, s47, s48, s49], by simp only [putAll, z1, z2], s6, s41, s42, (.pointer (some ⟨b3, 0, none⟩)), (.bool q), s45, s46, s47, s48, s49, c_b4, c_b5, rfl, lk h0, lk h1, lk h2, fun _ => rfl, lk h4, lk h5, lk h6, lk h7, lk h8, lk h9, lk h10, lk h11, hz0, hz1, HF⟩
      · have d1 := h1 (hd 1 (by kernel_rfl))
        have d3 := h3 (hd 3 (by kernel_rfl))
        obtain rfl := d1
        obtain rfl := d3
        refine wpOp_want rfl rfl (fun K hK => ?_)
        simp only [putAll, z1, z2, z3, z4, z5]
        refine ⟨?_⟩
        go_simp
        exact hK _ _ ⟨[s6, s41, (.bool true), s43, (.bool q), (.bool (!q)), s46, s47, s48, s49], by simp only [putAll, z1, z2], s6, s41, (.bool true), s43, (.bool q), (.bool (!q)), s46, s47, s48, s49, c_b4, c_b5, rfl, lk h0, lk h1, lk h2, lk h3, fun _ => rfl, lk h5, lk h6, lk h7, lk h8, lk h9, lk h10, lk h11, hz0, hz1, HF⟩
      · refine wpOp_want rfl rfl (fun K hK => ?_)
        simp only [putAll, z1, z2, z3, z4, z5]
        with_reducible apply gL HF
        · exact rfl
        · (exact tL)
        · (first | (exact tR3))
        go_simp
        exact hK _ _ ⟨[s6, s41, s42, s43, s44, s45, (.agg (limA 32 (c + 1))), s47, s48, s49], by simp only [putAll, z1, z2], s6, s41, s42, s43, s44, s45, (.agg (limA 32 (c + 1))), s47, s48, s49, c_b4, c_b5, rfl, lk h0, lk h1, lk h2, lk h3, lk h4, fun _ => rfl, lk h6, lk h7, lk h8, lk h9, lk h10, lk h11, hz0, hz1, HF⟩
      · have d4 := h4 (hd 4 (by kernel_rfl))
        have d5 := h5 (hd 5 (by kernel_rfl))
        obtain rfl := d4
        obtain rfl := d5
        refine wpOp_want rfl rfl (fun K hK => ?_)
        simp only [putAll, z1, z2, z3, z4, z5]
        refine ⟨?_⟩
        go_simp
        with_reducible refine fr_call HF (m1 _) ?_
        clear HF
        intro W HF
        (try dsimp only)
        exact hK _ _ ⟨[s6, s41, s42, s43, s44, (.bool (!q)), (.agg (limA 32 (c + 1))), (.agg (IC (x / y))), s48, s49], by simp only [putAll, z1, z2], s6, s41, s42, s43, s44, (.bool (!q)), (.agg (limA 32 (c + 1))), (.agg (IC (x / y))), s48, s49, c_b4, c_b5, rfl, lk h0, lk h1, lk h2, lk h3, lk h4, lk h5, fun _ => rfl, lk h7, lk h8, lk h9, lk h10, lk h11, hz0, hz1, HF⟩
      · refine wpOp_want rfl rfl (fun K hK => ?_)
        simp only [putAll, z1, z2, z3, z4, z5]
        with_reducible apply gL HF
        · exact rfl
        · (exact tL)
        · (first | (exact tR3))
        go_simp
        exact hK _ _ ⟨[s6, s41, s42, s43, s44, s45, s46, s47, (.agg (limA 32 (y.natAbs - d))), s49], by simp only [putAll, z1, z2], s6, s41, s42, s43, s44, s45, s46, s47, (.agg (limA 32 (y.natAbs - d))), s49, c_b4, c_b5, rfl, lk h0, lk h1, lk h2, lk h3, lk h4, lk h5, lk h6, fun _ => rfl, lk h8, lk h9, lk h10, lk h11, hz0, hz1, HF⟩
      · have d7 := h7 (hd 7 (by kernel_rfl))
        obtain rfl := d7
        refine wpOp_want rfl rfl (fun K hK => ?_)
        simp only [putAll, z1, z2, z3, z4, z5]
        refine ⟨?_⟩
        go_simp
        with_reducible refine fr_call HF (m2 _) ?_
        clear HF
        intro W HF
        (try dsimp only)
        exact hK _ _ ⟨[s6, s41, s42, s43, s44, s45, s46, s47, (.agg (limA 32 (y.natAbs - d))), (.agg (IC (x % y)))], by simp only [putAll, z1, z2], s6, s41, s42, s43, s44, s45, s46, s47, (.agg (limA 32 (y.natAbs - d))), (.agg (IC (x % y))), c_b4, c_b5, rfl, lk h0, lk h1, lk h2, lk h3, lk h4, lk h5, lk h6, lk h7, fun _ => rfl, lk h9, lk h10, lk h11, hz0, hz1, HF⟩
      · have d6 := h6 (hd 6 (by kernel_rfl))
        obtain rfl := d6
        refine wpOp_want rfl rfl (fun K hK => ?_)
        simp only [putAll, z1, z2, z3, z4, z5]
        with_reducible apply gS HF
        · exact rfl
        · exact rfl
        · (exact tL)
        · (first | (exact tR3))
        · first | exact hz0 | exact tS2
        clear HF
        intro W HF
        simp only [z7, z8, List.append_assoc, List.append_nil] at HF
        go_simp
        exact hK _ _ ⟨[s6, s41, s42, s43, s44, s45, s46, (.agg (IC (x / y))), s48, s49], by simp only [putAll, z1, z2], s6, s41, s42, s43, s44, s45, s46, (.agg (IC (x / y))), s48, s49, (IC (x / y)), c_b5, rfl, lk h0, lk h1, lk h2, lk h3, lk h4, lk h5, lk h6, lk h7, lk h8, fun _ => rfl, lk h10, lk h11, rfl, hz1, HF⟩
      · have d8 := h8 (hd 8 (by kernel_rfl))
        obtain rfl := d8
        refine wpOp_want rfl rfl (fun K hK => ?_)
        simp only [putAll, z1, z2, z3, z4, z5]
        with_reducible apply gS HF
        · exact rfl
        · exact rfl
        · (exact tL)
        · (first | (exact tR3))
        · first | exact hz1 | exact tS2
        clear HF
        intro W HF
        simp only [z7, z8, List.append_assoc, List.append_nil] at HF
        go_simp
        exact hK _ _ ⟨[s6, s41, s42, s43, s44, s45, s46, s47, s48, (.agg (IC (x % y)))], by simp only [putAll, z1, z2], s6, s41, s42, s43, s44, s45, s46, s47, s48, (.agg (IC (x % y))), c_b4, (IC (x % y)), rfl, lk h0, lk h1, lk h2, lk h3, lk h4, lk h5, lk h6, lk h7, lk h8, lk h9, fun _ => rfl, lk h11, hz0, rfl, HF⟩
      · refine wpOp_want rfl rfl (fun K hK => ?_)
        simp only [putAll, z1, z2, z3, z4, z5]
        refine ⟨?_⟩
        go_simp
        exact hK _ _ ⟨[(.int .i64 0), s41, s42, s43, s44, s45, s46, s47, s48, s49], by simp only [putAll, z1, z2], (.int .i64 0), s41, s42, s43, s44, s45, s46, s47, s48, s49, c_b4, c_b5, rfl, lk h0, lk h1, lk h2, lk h3, lk h4, lk h5, lk h6, lk h7, lk h8, lk h9, lk h10, fun _ => rfl, hz0, hz1, HF⟩
    rintro listed mm W ⟨s6, s41, s42, s43, s44, s45, s46, s47, s48, s49, c_b4, c_b5, rfl, h0, h1, h2, h3, h4, h5, h6, h7, h8, h9, h10, h11, hz0, hz1, HF⟩ hall
    obtain rfl := h0 (hall 0 (by decide))
    obtain rfl := h1 (hall 1 (by decide))
    obtain rfl := h2 (hall 2 (by decide))
    obtain rfl := h3 (hall 3 (by decide))
    obtain rfl := h4 (hall 4 (by decide))
    obtain rfl := h5 (hall 5 (by decide))
    obtain rfl := h6 (hall 6 (by decide))
    obtain rfl := h7 (hall 7 (by decide))
    obtain rfl := h8 (hall 8 (by decide))
    rw [h9 (hall 9 (by decide))] at HF
    rw [h10 (hall 10 (by decide))] at HF
    obtain rfl := h11 (hall 11 (by decide))
    clear hall h0 h1 h2 h3 h4 h5 h6 h7 h8 h9 h10 h11 hz0 hz1 F
    have F := HF
    clear HF
    simp only [putAll, z1, z2]
    go_wp2_with (first | go_skip | ((with_reducible apply fL F); exact rfl; exact rfl; (exact tL); (exact tR3)) | ((with_reducible apply fLm F); exact rfl; exact rfl; (exact tL); (exact tM3); (exact tR3)) | ((with_reducible apply fA_int F); exact rfl) | ((with_reducible apply fX_int F); exact rfl; exact rfl) | ((with_reducible apply fA_arr F); exact rfl) | ((with_reducible apply fS F); exact rfl; exact rfl; exact rfl; (exact tL); (exact tR3); (exact tS2); clear F; intro W F; simp only [z7, z8] at F) | ((with_reducible apply fB_int0); exact rfl))
    exact bodyPost_ret (res_ccs rfl rfl rfl rfl (Fr.get F tL) (rowInt _ _) (Fr.get F tL) (rowInt _ _)) rfl ⟨rfl, F.below⟩
  · have hi := HI.out
    rw [if_neg hcase] at hi
    obtain ⟨rfl, rfl⟩ := hi
    cases p
    · have mo : (false != q) = q := by cases q <;> rfl
      rw [mo] at m1
      go_wp2_with (first | go_skip | ((with_reducible apply fL F); exact rfl; exact rfl; (exact tL); (exact tR3)) | ((with_reducible apply fLm F); exact rfl; exact rfl; (exact tL); (exact tM3); (exact tR3)) | ((with_reducible apply fA_int F); exact rfl) | ((with_reducible apply fX_int F); exact rfl; exact rfl) | ((with_reducible apply fA_arr F); exact rfl) | ((with_reducible apply fS F); exact rfl; exact rfl; exact rfl; (exact tL); (exact tR3); (exact tS2); clear F; intro W F; simp only [z7, z8] at F) | ((with_reducible apply fB_int0); exact rfl))
      clear c0
      try simp only [Act.put, z6, z1, z2]
      refine wp_region_slots mixP [6, 41, 42, 43, 44, 45, 46, 47, 48, 49] (fun l mm W => ∃ (s6 s41 s42 s43 s44 s45 s46 s47 s48 s49 : Value) (c_b4 c_b5 : Array Value), mm = [s6, s41, s42, s43, s44, s45, s46, s47, s48, s49] ∧ (l.getD 0 false = true → s41 = .pointer (some ⟨b2, 0, none⟩)) ∧ (l.getD 1 false = true → s42 = .bool false) ∧ (l.getD 2 false = true → s43 = .pointer (some ⟨b3, 0, none⟩)) ∧ (l.getD 3 false = true → s44 = .bool q) ∧ (l.getD 4 false = true → s45 = .bool q) ∧ (l.getD 5 false = true → s46 = .agg (limA 32 c')) ∧ (l.getD 6 false = true → s47 = .agg (IC (x / y))) ∧ (l.getD 7 false = true → s48 = .agg (limA 32 d')) ∧ (l.getD 8 false = true → s49 = .agg (IC (x % y))) ∧ (l.getD 9 false = true → c_b4 = IC (x / y)) ∧ (l.getD 10 false = true → c_b5 = IC (x % y)) ∧ (l.getD 11 false = true → s6 = .int .i64 0) ∧ c_b4.size = (IC (x / y)).size ∧ c_b5.size = (IC (x % y)).size ∧ Fr w W [(b8, limA 32 d', 27), (b7, limA 32 c', 27), (b5, c_b5, 29), (b4, c_b4, 29), (b3, IC y, 29), (b2, IC x, 29)]) (by kernel_rfl) (putAll_self _ _) ?_ ?_ ?_
      · exact ⟨_, _, _, _, _, _, _, _, _, _, (intC false 0), (intC false 0), rfl, nf, nf, nf, nf, nf, nf, nf, nf, nf, nf, nf, nf, by exact tS2, by exact tS2, F.drew⟩
      · rintro listed mm W ii hi hsz hoff ⟨s6, s41, s42, s43, s44, s45, s46, s47, s48, s49, c_b4, c_b5, rfl, h0, h1, h2, h3, h4, h5, h6, h7, h8, h9, h10, h11, hz0, hz1, HF⟩ hd
        have hc := dr_c12 hi
        have hsz2 : listed.size = 12 := hsz
        clear hi hsz
        rcases hc with rfl | rfl | rfl | rfl | rfl | rfl | rfl | rfl | rfl | rfl | rfl | rfl
        · refine wpOp_want rfl rfl (fun K hK => ?_)
          simp only [putAll, z1, z2, z3, z4, z5]
          refine ⟨?_⟩
          go_simp
          exact hK _ _ ⟨[s6, (.pointer (some ⟨b2, 0, none⟩)), s42, s43, s44, s45, s46, s47, s48, s49], by simp only [putAll, z1, z2], s6, (.pointer (some ⟨b2, 0, none⟩)), s42, s43, s44, s45, s46, s47, s48, s49, c_b4, c_b5, rfl, fun _ => rfl, lk h1, lk h2, lk h3, lk h4, lk h5, lk h6, lk h7, lk h8, lk h9, lk h10, lk h11, hz0, hz1, HF⟩
        · have d0 := h0 (hd 0 (by kernel_rfl))
          obtain rfl := d0
          refine wpOp_want rfl rfl (fun K hK => ?_)
          simp only [putAll, z1, z2, z3, z4, z5]
          have cF := BlkAt.cell (Fr.get HF (b := b2) (cs := IC x) (by (exact tL))) (cx)
          refine ⟨?_⟩
          go_simp
          exact hK _ _ ⟨[s6, (.pointer (some ⟨b2, 0, none⟩)), (.bool false), s43, s44, s45, s46, s47, s48, s49], by simp only [putAll, z1, z2], s6, (.pointer (some ⟨b2, 0, none⟩)), (.bool false), s43, s44, s45, s46, s47, s48, s49, c_b4, c_b5, rfl, lk h0, fun _ => rfl, lk h2, lk h3, lk h4, lk h5, lk h6, lk h7, lk h8, lk h9, lk h10, lk h11, hz0, hz1, HF⟩
        · refine wpOp_want rfl rfl (fun K hK => ?_)
          simp only [putAll, z1, z2, z3, z4, z5]
          refine ⟨?_⟩
          go_simp
          exact hK _ _ ⟨[s6, s41, s42, (.pointer (some ⟨b3, 0, none⟩)), s44, s45, s46, s47, s48, s49], by simp only [putAll, z1, z2], s6, s41, s42, (.pointer (some ⟨b3, 0, none⟩)), s44, s45, s46, s47, s48, s49, c_b4, c_b5, rfl, lk h0, lk h1, fun _ => rfl, lk h3, lk h4, lk h5, lk h6, lk h7, lk h8, lk h9, lk h10, lk h11, hz0, hz1, HF⟩
        · have d2 := h2 (hd 2 (by kernel_rfl))
          obtain rfl := d2
          refine wpOp_want rfl rfl (fun K hK => ?_)
          simp only [putAll, z1, z2, z3, z4, z5]
          have cF := BlkAt.cell (Fr.get HF (b := b3) (cs := IC y) (by (exact tL))) (cy)
          refine ⟨?_⟩
          go_simp
          exact hK _ _ ⟨[s6, s41, s42, (.pointer (some ⟨b3, 0, none⟩)), (.bool q), s45, s46, s47, s48, s49], by simp only [putAll, z1, z2], s6, s41, s42, (.pointer (some ⟨b3, 0, none⟩)), (.bool q), s45, s46, s47, s48, s49, c_b4, c_b5, rfl, lk h0, lk h1, lk h2, fun _ => rfl, lk h4, lk h5, lk h6, lk h7, lk h8, lk h9, lk h10, lk h11, hz0, hz1, HF⟩
        · have d1 := h1 (hd 1 (by kernel_rfl))
          have d3 := h3 (hd 3 (by kernel_rfl))
          obtain rfl := d1
          obtain rfl := d3
          refine wpOp_want rfl rfl (fun K hK => ?_)
          simp only [putAll, z1, z2, z3, z4, z5]
          refine ⟨?_⟩
          go_simp
          exact hK _ _ ⟨[s6, s41, (.bool false), s43, (.bool q), (.bool q), s46, s47, s48, s49], by simp only [putAll, z1, z2], s6, s41, (.bool false), s43, (.bool q), (.bool q), s46, s47, s48, s49, c_b4, c_b5, rfl, lk h0, lk h1, lk h2, lk h3, fun _ => rfl, lk h5, lk h6, lk h7, lk h8, lk h9, lk h10, lk h11, hz0, hz1, HF⟩
        · refine wpOp_want rfl rfl (fun K hK => ?_)
          simp only [putAll, z1, z2, z3, z4, z5]
          with_reducible apply gL HF
          · exact rfl
          · (exact tL)
          · (first | (exact tR3))
          go_simp
          exact hK _ _ ⟨[s6, s41, s42, s43, s44, s45, (.agg (limA 32 c')), s47, s48, s49], by simp only [putAll, z1, z2], s6, s41, s42, s43, s44, s45, (.agg (limA 32 c')), s47, s48, s49, c_b4, c_b5, rfl, lk h0, lk h1, lk h2, lk h3, lk h4, fun _ => rfl, lk h6, lk h7, lk h8, lk h9, lk h10, lk h11, hz0, hz1, HF⟩
        · have d4 := h4 (hd 4 (by kernel_rfl))
          have d5 := h5 (hd 5 (by kernel_rfl))
          obtain rfl := d4
          obtain rfl := d5
          refine wpOp_want rfl rfl (fun K hK => ?_)
          simp only [putAll, z1, z2, z3, z4, z5]
          refine ⟨?_⟩
          go_simp
          with_reducible refine fr_call HF (m1 _) ?_
          clear HF
          intro W HF
          (try dsimp only)
          exact hK _ _ ⟨[s6, s41, s42, s43, s44, (.bool q), (.agg (limA 32 c')), (.agg (IC (x / y))), s48, s49], by simp only [putAll, z1, z2], s6, s41, s42, s43, s44, (.bool q), (.agg (limA 32 c')), (.agg (IC (x / y))), s48, s49, c_b4, c_b5, rfl, lk h0, lk h1, lk h2, lk h3, lk h4, lk h5, fun _ => rfl, lk h7, lk h8, lk h9, lk h10, lk h11, hz0, hz1, HF⟩
        · refine wpOp_want rfl rfl (fun K hK => ?_)
          simp only [putAll, z1, z2, z3, z4, z5]
          with_reducible apply gL HF
          · exact rfl
          · (exact tL)
          · (first | (exact tR3))
          go_simp
          exact hK _ _ ⟨[s6, s41, s42, s43, s44, s45, s46, s47, (.agg (limA 32 d')), s49], by simp only [putAll, z1, z2], s6, s41, s42, s43, s44, s45, s46, s47, (.agg (limA 32 d')), s49, c_b4, c_b5, rfl, lk h0, lk h1, lk h2, lk h3, lk h4, lk h5, lk h6, fun _ => rfl, lk h8, lk h9, lk h10, lk h11, hz0, hz1, HF⟩
        · have d7 := h7 (hd 7 (by kernel_rfl))
          obtain rfl := d7
          refine wpOp_want rfl rfl (fun K hK => ?_)
          simp only [putAll, z1, z2, z3, z4, z5]
          refine ⟨?_⟩
          go_simp
          with_reducible refine fr_call HF (m2 _) ?_
          clear HF
          intro W HF
          (try dsimp only)
          exact hK _ _ ⟨[s6, s41, s42, s43, s44, s45, s46, s47, (.agg (limA 32 d')), (.agg (IC (x % y)))], by simp only [putAll, z1, z2], s6, s41, s42, s43, s44, s45, s46, s47, (.agg (limA 32 d')), (.agg (IC (x % y))), c_b4, c_b5, rfl, lk h0, lk h1, lk h2, lk h3, lk h4, lk h5, lk h6, lk h7, fun _ => rfl, lk h9, lk h10, lk h11, hz0, hz1, HF⟩
        · have d6 := h6 (hd 6 (by kernel_rfl))
          obtain rfl := d6
          refine wpOp_want rfl rfl (fun K hK => ?_)
          simp only [putAll, z1, z2, z3, z4, z5]
          with_reducible apply gS HF
          · exact rfl
          · exact rfl
          · (exact tL)
          · (first | (exact tR3))
          · first | exact hz0 | exact tS2
          clear HF
          intro W HF
          simp only [z7, z8, List.append_assoc, List.append_nil] at HF
          go_simp
          exact hK _ _ ⟨[s6, s41, s42, s43, s44, s45, s46, (.agg (IC (x / y))), s48, s49], by simp only [putAll, z1, z2], s6, s41, s42, s43, s44, s45, s46, (.agg (IC (x / y))), s48, s49, (IC (x / y)), c_b5, rfl, lk h0, lk h1, lk h2, lk h3, lk h4, lk h5, lk h6, lk h7, lk h8, fun _ => rfl, lk h10, lk h11, rfl, hz1, HF⟩
        · have d8 := h8 (hd 8 (by kernel_rfl))
          obtain rfl := d8
          refine wpOp_want rfl rfl (fun K hK => ?_)
          simp only [putAll, z1, z2, z3, z4, z5]
          with_reducible apply gS HF
          · exact rfl
          · exact rfl
          · (exact tL)
          · (first | (exact tR3))
          · first | exact hz1 | exact tS2
          clear HF
          intro W HF
          simp only [z7, z8, List.append_assoc, List.append_nil] at HF
          go_simp
          exact hK _ _ ⟨[s6, s41, s42, s43, s44, s45, s46, s47, s48, (.agg (IC (x % y)))], by simp only [putAll, z1, z2], s6, s41, s42, s43, s44, s45, s46, s47, s48, (.agg (IC (x % y))), c_b4, (IC (x % y)), rfl, lk h0, lk h1, lk h2, lk h3, lk h4, lk h5, lk h6, lk h7, lk h8, lk h9, fun _ => rfl, lk h11, hz0, rfl, HF⟩
        · refine wpOp_want rfl rfl (fun K hK => ?_)
          simp only [putAll, z1, z2, z3, z4, z5]
          refine ⟨?_⟩
          go_simp
          exact hK _ _ ⟨[(.int .i64 0), s41, s42, s43, s44, s45, s46, s47, s48, s49], by simp only [putAll, z1, z2], (.int .i64 0), s41, s42, s43, s44, s45, s46, s47, s48, s49, c_b4, c_b5, rfl, lk h0, lk h1, lk h2, lk h3, lk h4, lk h5, lk h6, lk h7, lk h8, lk h9, lk h10, fun _ => rfl, hz0, hz1, HF⟩
      rintro listed mm W ⟨s6, s41, s42, s43, s44, s45, s46, s47, s48, s49, c_b4, c_b5, rfl, h0, h1, h2, h3, h4, h5, h6, h7, h8, h9, h10, h11, hz0, hz1, HF⟩ hall
      obtain rfl := h0 (hall 0 (by decide))
      obtain rfl := h1 (hall 1 (by decide))
      obtain rfl := h2 (hall 2 (by decide))
      obtain rfl := h3 (hall 3 (by decide))
      obtain rfl := h4 (hall 4 (by decide))
      obtain rfl := h5 (hall 5 (by decide))
      obtain rfl := h6 (hall 6 (by decide))
      obtain rfl := h7 (hall 7 (by decide))
      obtain rfl := h8 (hall 8 (by decide))
      rw [h9 (hall 9 (by decide))] at HF
      rw [h10 (hall 10 (by decide))] at HF
      obtain rfl := h11 (hall 11 (by decide))
      clear hall h0 h1 h2 h3 h4 h5 h6 h7 h8 h9 h10 h11 hz0 hz1 F
      have F := HF
      clear HF
      simp only [putAll, z1, z2]
      go_wp2_with (first | go_skip | ((with_reducible apply fL F); exact rfl; exact rfl; (exact tL); (exact tR3)) | ((with_reducible apply fLm F); exact rfl; exact rfl; (exact tL); (exact tM3); (exact tR3)) | ((with_reducible apply fA_int F); exact rfl) | ((with_reducible apply fX_int F); exact rfl; exact rfl) | ((with_reducible apply fA_arr F); exact rfl) | ((with_reducible apply fS F); exact rfl; exact rfl; exact rfl; (exact tL); (exact tR3); (exact tS2); clear F; intro W F; simp only [z7, z8] at F) | ((with_reducible apply fB_int0); exact rfl))
      exact bodyPost_ret (res_ccs rfl rfl rfl rfl (Fr.get F tL) (rowInt _ _) (Fr.get F tL) (rowInt _ _)) rfl ⟨rfl, F.below⟩
    · have mo : (true != q) = !q := by cases q <;> rfl
      rw [mo] at m1
      have hd0 : decide (d' = 0) = true := by
        rw [decide_eq_true_eq]
        refine Classical.byContradiction fun h => hcase ⟨rfl, h⟩
      rw [hd0] at gn
      clear hcase hd0
      go_wp2_with (first | go_skip | ((go_at_call 125); (with_reducible refine fr_call F (gn _) ?_); (clear F; intro W F); (try dsimp only)) | ((with_reducible apply fL F); exact rfl; exact rfl; (exact tL); (exact tR3)) | ((with_reducible apply fLm F); exact rfl; exact rfl; (exact tL); (exact tM3); (exact tR3)) | ((with_reducible apply fA_int F); exact rfl) | ((with_reducible apply fX_int F); exact rfl; exact rfl) | ((with_reducible apply fA_arr F); exact rfl) | ((with_reducible apply fS F); exact rfl; exact rfl; exact rfl; (exact tL); (exact tR3); (exact tS2); clear F; intro W F; simp only [z7, z8] at F) | ((with_reducible apply fB_int0); exact rfl))
      clear c0
      try simp only [Act.put, z6, z1, z2]
      refine wp_region_slots mixP [6, 41, 42, 43, 44, 45, 46, 47, 48, 49] (fun l mm W => ∃ (s6 s41 s42 s43 s44 s45 s46 s47 s48 s49 : Value) (c_b4 c_b5 : Array Value), mm = [s6, s41, s42, s43, s44, s45, s46, s47, s48, s49] ∧ (l.getD 0 false = true → s41 = .pointer (some ⟨b2, 0, none⟩)) ∧ (l.getD 1 false = true → s42 = .bool true) ∧ (l.getD 2 false = true → s43 = .pointer (some ⟨b3, 0, none⟩)) ∧ (l.getD 3 false = true → s44 = .bool q) ∧ (l.getD 4 false = true → s45 = .bool (!q)) ∧ (l.getD 5 false = true → s46 = .agg (limA 32 c')) ∧ (l.getD 6 false = true → s47 = .agg (IC (x / y))) ∧ (l.getD 7 false = true → s48 = .agg (limA 32 d')) ∧ (l.getD 8 false = true → s49 = .agg (IC (x % y))) ∧ (l.getD 9 false = true → c_b4 = IC (x / y)) ∧ (l.getD 10 false = true → c_b5 = IC (x % y)) ∧ (l.getD 11 false = true → s6 = .int .i64 0) ∧ c_b4.size = (IC (x / y)).size ∧ c_b5.size = (IC (x % y)).size ∧ Fr w W [(b8, limA 32 d', 27), (b7, limA 32 c', 27), (b5, c_b5, 29), (b4, c_b4, 29), (b3, IC y, 29), (b2, IC x, 29)]) (by kernel_rfl) (putAll_self _ _) ?_ ?_ ?_
      · exact ⟨_, _, _, _, _, _, _, _, _, _, (intC false 0), (intC false 0), rfl, nf, nf, nf, nf, nf, nf, nf, nf, nf, nf, nf, nf, by exact tS2, by exact tS2, F.drew⟩
      · rintro listed mm W ii hi hsz hoff ⟨s6, s41, s42, s43, s44, s45, s46, s47, s48, s49, c_b4, c_b5, rfl, h0, h1, h2, h3, h4, h5, h6, h7, h8, h9, h10, h11, hz0, hz1, HF⟩ hd
        have hc := dr_c12 hi
        have hsz2 : listed.size = 12 := hsz
        clear hi hsz
        rcases hc with rfl | rfl | rfl | rfl | rfl | rfl | rfl | rfl | rfl | rfl | rfl | rfl
        · refine wpOp_want rfl rfl (fun K hK => ?_)
          simp only [putAll, z1, z2, z3, z4, z5]
          refine ⟨?_⟩
          go_simp
          exact hK _ _ ⟨[s6, (.pointer (some ⟨b2, 0, none⟩)), s42, s43, s44, s45, s46, s47, s48, s49], by simp only [putAll, z1, z2], s6, (.pointer (some ⟨b2, 0, none⟩)), s42, s43, s44, s45, s46, s47, s48, s49, c_b4, c_b5, rfl, fun _ => rfl, lk h1, lk h2, lk h3, lk h4, lk h5, lk h6, lk h7, lk h8, lk h9, lk h10, lk h11, hz0, hz1, HF⟩
        · have d0 := h0 (hd 0 (by kernel_rfl))
          obtain rfl := d0
          refine wpOp_want rfl rfl (fun K hK => ?_)
          simp only [putAll, z1, z2, z3, z4, z5]
          have cF := BlkAt.cell (Fr.get HF (b := b2) (cs := IC x) (by (exact tL))) (cx)
          refine ⟨?_⟩
          go_simp
          exact hK _ _ ⟨[s6, (.pointer (some ⟨b2, 0, none⟩)), (.bool true), s43, s44, s45, s46, s47, s48, s49], by simp only [putAll, z1, z2], s6, (.pointer (some ⟨b2, 0, none⟩)), (.bool true), s43, s44, s45, s46, s47, s48, s49, c_b4, c_b5, rfl, lk h0, fun _ => rfl, lk h2, lk h3, lk h4, lk h5, lk h6, lk h7, lk h8, lk h9, lk h10, lk h11, hz0, hz1, HF⟩
        · refine wpOp_want rfl rfl (fun K hK => ?_)
          simp only [putAll, z1, z2, z3, z4, z5]
          refine ⟨?_⟩
          go_simp
          exact hK _ _ ⟨[s6, s41, s42, (.pointer (some ⟨b3, 0, none⟩)), s44, s45, s46, s47, s48, s49], by simp only [putAll, z1, z2], s6, s41, s42, (.pointer (some ⟨b3, 0, none⟩)), s44, s45, s46, s47, s48, s49, c_b4, c_b5, rfl, lk h0, lk h1, fun _ => rfl, lk h3, lk h4, lk h5, lk h6, lk h7, lk h8, lk h9, lk h10, lk h11, hz0, hz1, HF⟩
        · have d2 := h2 (hd 2 (by kernel_rfl))
          obtain rfl := d2
          refine wpOp_want rfl rfl (fun K hK => ?_)
          simp only [putAll, z1, z2, z3, z4, z5]
          have cF := BlkAt.cell (Fr.get HF (b := b3) (cs := IC y) (by (exact tL))) (cy)
          refine ⟨?_⟩
          go_simp
          exact hK _ _ ⟨[s6, s41, s42, (.pointer (some ⟨b3, 0, none⟩)), (.bool q), s45, s46, s47, s48, s49], by simp only [putAll, z1, z2], s6, s41, s42, (.pointer (some ⟨b3, 0, none⟩)), (.bool q), s45, s46, s47, s48, s49, c_b4, c_b5, rfl, lk h0, lk h1, lk h2, fun _ => rfl, lk h4, lk h5, lk h6, lk h7, lk h8, lk h9, lk h10, lk h11, hz0, hz1, HF⟩
        · have d1 := h1 (hd 1 (by kernel_rfl))
          have d3 := h3 (hd 3 (by kernel_rfl))
          obtain rfl := d1
          obtain rfl := d3
          refine wpOp_want rfl rfl (fun K hK => ?_)
          simp only [putAll, z1, z2, z3, z4, z5]
          refine ⟨?_⟩
          go_simp
          exact hK _ _ ⟨[s6, s41, (.bool true), s43, (.bool q), (.bool (!q)), s46, s47, s48, s49], by simp only [putAll, z1, z2], s6, s41, (.bool true), s43, (.bool q), (.bool (!q)), s46, s47, s48, s49, c_b4, c_b5, rfl, lk h0, lk h1, lk h2, lk h3, fun _ => rfl, lk h5, lk h6, lk h7, lk h8, lk h9, lk h10, lk h11, hz0, hz1, HF⟩
        · refine wpOp_want rfl rfl (fun K hK => ?_)
          simp only [putAll, z1, z2, z3, z4, z5]
          with_reducible apply gL HF
          · exact rfl
          · (exact tL)
          · (first | (exact tR3))
          go_simp
          exact hK _ _ ⟨[s6, s41, s42, s43, s44, s45, (.agg (limA 32 c')), s47, s48, s49], by simp only [putAll, z1, z2], s6, s41, s42, s43, s44, s45, (.agg (limA 32 c')), s47, s48, s49, c_b4, c_b5, rfl, lk h0, lk h1, lk h2, lk h3, lk h4, fun _ => rfl, lk h6, lk h7, lk h8, lk h9, lk h10, lk h11, hz0, hz1, HF⟩
        · have d4 := h4 (hd 4 (by kernel_rfl))
          have d5 := h5 (hd 5 (by kernel_rfl))
          obtain rfl := d4
          obtain rfl := d5
          refine wpOp_want rfl rfl (fun K hK => ?_)
          simp only [putAll, z1, z2, z3, z4, z5]
          refine ⟨?_⟩
          go_simp
          with_reducible refine fr_call HF (m1 _) ?_
          clear HF
          intro W HF
          (try dsimp only)
          exact hK _ _ ⟨[s6, s41, s42, s43, s44, (.bool (!q)), (.agg (limA 32 c')), (.agg (IC (x / y))), s48, s49], by simp only [putAll, z1, z2], s6, s41, s42, s43, s44, (.bool (!q)), (.agg (limA 32 c')), (.agg (IC (x / y))), s48, s49, c_b4, c_b5, rfl, lk h0, lk h1, lk h2, lk h3, lk h4, lk h5, fun _ => rfl, lk h7, lk h8, lk h9, lk h10, lk h11, hz0, hz1, HF⟩
        · refine wpOp_want rfl rfl (fun K hK => ?_)
          simp only [putAll, z1, z2, z3, z4, z5]
          with_reducible apply gL HF
          · exact rfl
          · (exact tL)
          · (first | (exact tR3))
          go_simp
          exact hK _ _ ⟨[s6, s41, s42, s43, s44, s45, s46, s47, (.agg (limA 32 d')), s49], by simp only [putAll, z1, z2], s6, s41, s42, s43, s44, s45, s46, s47, (.agg (limA 32 d')), s49, c_b4, c_b5, rfl, lk h0, lk h1, lk h2, lk h3, lk h4, lk h5, lk h6, fun _ => rfl, lk h8, lk h9, lk h10, lk h11, hz0, hz1, HF⟩
        · have d7 := h7 (hd 7 (by kernel_rfl))
          obtain rfl := d7
          refine wpOp_want rfl rfl (fun K hK => ?_)
          simp only [putAll, z1, z2, z3, z4, z5]
          refine ⟨?_⟩
          go_simp
          with_reducible refine fr_call HF (m2 _) ?_
          clear HF
          intro W HF
          (try dsimp only)
          exact hK _ _ ⟨[s6, s41, s42, s43, s44, s45, s46, s47, (.agg (limA 32 d')), (.agg (IC (x % y)))], by simp only [putAll, z1, z2], s6, s41, s42, s43, s44, s45, s46, s47, (.agg (limA 32 d')), (.agg (IC (x % y))), c_b4, c_b5, rfl, lk h0, lk h1, lk h2, lk h3, lk h4, lk h5, lk h6, lk h7, fun _ => rfl, lk h9, lk h10, lk h11, hz0, hz1, HF⟩
        · have d6 := h6 (hd 6 (by kernel_rfl))
          obtain rfl := d6
          refine wpOp_want rfl rfl (fun K hK => ?_)
          simp only [putAll, z1, z2, z3, z4, z5]
          with_reducible apply gS HF
          · exact rfl
          · exact rfl
          · (exact tL)
          · (first | (exact tR3))
          · first | exact hz0 | exact tS2
          clear HF
          intro W HF
          simp only [z7, z8, List.append_assoc, List.append_nil] at HF
          go_simp
          exact hK _ _ ⟨[s6, s41, s42, s43, s44, s45, s46, (.agg (IC (x / y))), s48, s49], by simp only [putAll, z1, z2], s6, s41, s42, s43, s44, s45, s46, (.agg (IC (x / y))), s48, s49, (IC (x / y)), c_b5, rfl, lk h0, lk h1, lk h2, lk h3, lk h4, lk h5, lk h6, lk h7, lk h8, fun _ => rfl, lk h10, lk h11, rfl, hz1, HF⟩
        · have d8 := h8 (hd 8 (by kernel_rfl))
          obtain rfl := d8
          refine wpOp_want rfl rfl (fun K hK => ?_)
          simp only [putAll, z1, z2, z3, z4, z5]
          with_reducible apply gS HF
          · exact rfl
          · exact rfl
          · (exact tL)
          · (first | (exact tR3))
          · first | exact hz1 | exact tS2
          clear HF
          intro W HF
          simp only [z7, z8, List.append_assoc, List.append_nil] at HF
          go_simp
          exact hK _ _ ⟨[s6, s41, s42, s43, s44, s45, s46, s47, s48, (.agg (IC (x % y)))], by simp only [putAll, z1, z2], s6, s41, s42, s43, s44, s45, s46, s47, s48, (.agg (IC (x % y))), c_b4, (IC (x % y)), rfl, lk h0, lk h1, lk h2, lk h3, lk h4, lk h5, lk h6, lk h7, lk h8, lk h9, fun _ => rfl, lk h11, hz0, rfl, HF⟩
        · refine wpOp_want rfl rfl (fun K hK => ?_)
          simp only [putAll, z1, z2, z3, z4, z5]
          refine ⟨?_⟩
          go_simp
          exact hK _ _ ⟨[(.int .i64 0), s41, s42, s43, s44, s45, s46, s47, s48, s49], by simp only [putAll, z1, z2], (.int .i64 0), s41, s42, s43, s44, s45, s46, s47, s48, s49, c_b4, c_b5, rfl, lk h0, lk h1, lk h2, lk h3, lk h4, lk h5, lk h6, lk h7, lk h8, lk h9, lk h10, fun _ => rfl, hz0, hz1, HF⟩
      rintro listed mm W ⟨s6, s41, s42, s43, s44, s45, s46, s47, s48, s49, c_b4, c_b5, rfl, h0, h1, h2, h3, h4, h5, h6, h7, h8, h9, h10, h11, hz0, hz1, HF⟩ hall
      obtain rfl := h0 (hall 0 (by decide))
      obtain rfl := h1 (hall 1 (by decide))
      obtain rfl := h2 (hall 2 (by decide))
      obtain rfl := h3 (hall 3 (by decide))
      obtain rfl := h4 (hall 4 (by decide))
      obtain rfl := h5 (hall 5 (by decide))
      obtain rfl := h6 (hall 6 (by decide))
      obtain rfl := h7 (hall 7 (by decide))
      obtain rfl := h8 (hall 8 (by decide))
      rw [h9 (hall 9 (by decide))] at HF
      rw [h10 (hall 10 (by decide))] at HF
      obtain rfl := h11 (hall 11 (by decide))
      clear hall h0 h1 h2 h3 h4 h5 h6 h7 h8 h9 h10 h11 hz0 hz1 F
      have F := HF
      clear HF
      simp only [putAll, z1, z2]
      go_wp2_with (first | go_skip | ((with_reducible apply fL F); exact rfl; exact rfl; (exact tL); (exact tR3)) | ((with_reducible apply fLm F); exact rfl; exact rfl; (exact tL); (exact tM3); (exact tR3)) | ((with_reducible apply fA_int F); exact rfl) | ((with_reducible apply fX_int F); exact rfl; exact rfl) | ((with_reducible apply fA_arr F); exact rfl) | ((with_reducible apply fS F); exact rfl; exact rfl; exact rfl; (exact tL); (exact tR3); (exact tS2); clear F; intro W F; simp only [z7, z8] at F) | ((with_reducible apply fB_int0); exact rfl))
      exact bodyPost_ret (res_ccs rfl rfl rfl rfl (Fr.get F tL) (rowInt _ _) (Fr.get F tL) (rowInt _ _)) rfl ⟨rfl, F.below⟩
end
section
open Go.RowKit
set_option maxHeartbeats 4000000
noncomputable def arrOf (W : World) (b : Nat) : Nat := open Classical in if h : ∃ m, m < bp 32 ∧ BlkAt W b (limA 32 m) 27 then Classical.choose h else 0
theorem arrOf_is {W : World} {b m : Nat} (hm : m < bp 32) (h : BlkAt W b (limA 32 m) 27) : arrOf W b = m := by
  have he : ∃ m, m < bp 32 ∧ BlkAt W b (limA 32 m) 27 := ⟨m, hm, h⟩
  unfold arrOf
  rw [dif_pos he]
  obtain ⟨h1, h2⟩ := Classical.choose_spec he
  have e := h2.blk.symm.trans h.blk
  injection e with e
  injection e with e1
  exact limA_inj h1 hm e1
set_option maxRecDepth 100000 in
theorem rgcd_any {x y : Bool} {a b : Nat} (hx : a < bp 32) (hy : b < bp 32) (w : World) : Calls Tryz.prog 98 #[.agg (intC x a), .agg (intC y b)] w (RetB (.agg (IC (Nat.gcd a b : Nat))) w) := by
  have F := Fr.start w
  obtain ⟨g, hg⟩ : ∃ g, Nat.gcd a b = g := ⟨_, rfl⟩
  rw [hg]
  have HG := Lib.hid hg
  have HX := Lib.hid (show a < bp 32 ∧ b < bp 32 from ⟨hx, hy⟩)
  clear hg hx hy
  go_enter Tryz.func98, Tryz.ntmps98
  go_wp2_with (first | go_skip | ((with_reducible apply fL F); exact rfl; exact rfl; (exact tL); (exact tR3)) | ((with_reducible apply fLm F); exact rfl; exact rfl; (exact tL); (exact tM3); (exact tR3)) | ((with_reducible apply fA_int F); exact rfl) | ((with_reducible apply fX_int F); exact rfl; exact rfl) | ((with_reducible apply fA_arr F); exact rfl) | ((with_reducible apply fS F); exact rfl; exact rfl; exact rfl; (exact tL); (exact tR3); (exact tS2); clear F; intro W F; simp only [z7, z8] at F))
  (clear F; intro b2 W F; try simp only [Act.put, z6, z1, z2])
  go_wp2_with (first | go_skip | ((with_reducible apply fL F); exact rfl; exact rfl; (exact tL); (exact tR3)) | ((with_reducible apply fLm F); exact rfl; exact rfl; (exact tL); (exact tM3); (exact tR3)) | ((with_reducible apply fA_int F); exact rfl) | ((with_reducible apply fX_int F); exact rfl; exact rfl) | ((with_reducible apply fA_arr F); exact rfl) | ((with_reducible apply fS F); exact rfl; exact rfl; exact rfl; (exact tL); (exact tR3); (exact tS2); clear F; intro W F; simp only [z7, z8] at F))
  (clear F; intro b3 W F; try simp only [Act.put, z6, z1, z2])
  go_wp2_with (first | go_skip | ((with_reducible apply fL F); exact rfl; exact rfl; (exact tL); (exact tR3)) | ((with_reducible apply fLm F); exact rfl; exact rfl; (exact tL); (exact tM3); (exact tR3)) | ((with_reducible apply fA_int F); exact rfl) | ((with_reducible apply fX_int F); exact rfl; exact rfl) | ((with_reducible apply fA_arr F); exact rfl) | ((with_reducible apply fS F); exact rfl; exact rfl; exact rfl; (exact tL); (exact tR3); (exact tS2); clear F; intro W F; simp only [z7, z8] at F))
  (clear F; intro b4 W F; try simp only [Act.put, z6, z1, z2])
  go_wp2_with (first | go_skip | ((with_reducible apply fL F); exact rfl; exact rfl; (exact tL); (exact tR3)) | ((with_reducible apply fLm F); exact rfl; exact rfl; (exact tL); (exact tM3); (exact tR3)) | ((with_reducible apply fA_int F); exact rfl) | ((with_reducible apply fX_int F); exact rfl; exact rfl) | ((with_reducible apply fA_arr F); exact rfl) | ((with_reducible apply fS F); exact rfl; exact rfl; exact rfl; (exact tL); (exact tR3); (exact tS2); clear F; intro W F; simp only [z7, z8] at F))
  try simp only [Act.put, z6, z1, z2]
  refine wp_region_slots mixP [5, 6, 9, 10, 11, 12] (fun l mm W => ∃ (s5 s6 s9 s10 s11 s12 : Value) (c_b5 c_b6 : Array Value) (b5 b6 : Nat), mm = [s5, s6, s9, s10, s11, s12] ∧ (l.getD 0 false = true → s9 = .pointer (some ⟨b2, 1, none⟩)) ∧ (l.getD 1 false = true → s10 = .agg (limA 32 a)) ∧ (l.getD 2 false = true → s11 = .pointer (some ⟨b3, 1, none⟩)) ∧ (l.getD 3 false = true → s12 = .agg (limA 32 b)) ∧ (l.getD 4 false = true → s5 = .pointer (some ⟨b5, 0, none⟩)) ∧ (l.getD 5 false = true → s6 = .pointer (some ⟨b6, 0, none⟩)) ∧ (l.getD 6 false = true → c_b5 = limA 32 a) ∧ (l.getD 7 false = true → c_b6 = limA 32 b) ∧ (l.getD 6 false = true → l.getD 4 false = true) ∧ (l.getD 7 false = true → l.getD 5 false = true) ∧ c_b5.size = (limA 32 a).size ∧ c_b6.size = (limA 32 b).size ∧ Fr w W ((b4, intC false 0, 29) :: (b3, intC y b, 29) :: (b2, intC x a, 29) :: (onl (l.getD 4 false) (b5, c_b5, 27) ++ onl (l.getD 5 false) (b6, c_b6, 27)))) (by kernel_rfl) (putAll_self _ _) ?_ ?_ ?_
  · exact ⟨_, _, _, _, _, _, (limA 32 0), (limA 32 0), 0, 0, rfl, nf, nf, nf, nf, nf, nf, nf, nf, nf, nf, by exact tS2, by exact tS2, F.drew⟩
  · rintro listed mm W ii hi hsz hoff ⟨s5, s6, s9, s10, s11, s12, c_b5, c_b6, b5, b6, rfl, h0, h1, h2, h3, h4, h5, h6, h7, hN_b5, hN_b6, hz0, hz1, HF⟩ hd
    have hc := dr_c8 hi
    have hsz2 : listed.size = 8 := hsz
    clear hi hsz
    rcases hc with rfl | rfl | rfl | rfl | rfl | rfl | rfl | rfl
    · refine wpOp_want rfl rfl (fun K hK => ?_)
      simp only [putAll, z1, z2, z3, z4, z5]
      refine ⟨?_⟩
      go_simp
      exact hK _ _ ⟨[s5, s6, (.pointer (some ⟨b2, 1, none⟩)), s10, s11, s12], by simp only [putAll, z1, z2], s5, s6, (.pointer (some ⟨b2, 1, none⟩)), s10, s11, s12, c_b5, c_b6, b5, b6, rfl, fun _ => rfl, lk h1, lk h2, lk h3, lk h4, lk h5, lk h6, lk h7, fun h => by rw [getD_keep (show 0 ≠ 6 by decide)] at h; rw [getD_keep (show 0 ≠ 4 by decide)]; exact hN_b5 h, fun h => by rw [getD_keep (show 0 ≠ 7 by decide)] at h; rw [getD_keep (show 0 ≠ 5 by decide)]; exact hN_b6 h, hz0, hz1, by rw [getD_keep (show 0 ≠ 4 by decide), getD_keep (show 0 ≠ 5 by decide)]; exact HF⟩
    · have d0 := h0 (hd 0 (by kernel_rfl))
      obtain rfl := d0
      refine wpOp_want rfl rfl (fun K hK => ?_)
      simp only [putAll, z1, z2, z3, z4, z5]
      with_reducible apply gLm HF
      · exact rfl
      · (exact tL)
      · exact intC_tail _ _
      · (first | (exact tR3))
      go_simp
      exact hK _ _ ⟨[s5, s6, (.pointer (some ⟨b2, 1, none⟩)), (.agg (limA 32 a)), s11, s12], by simp only [putAll, z1, z2], s5, s6, (.pointer (some ⟨b2, 1, none⟩)), (.agg (limA 32 a)), s11, s12, c_b5, c_b6, b5, b6, rfl, lk h0, fun _ => rfl, lk h2, lk h3, lk h4, lk h5, lk h6, lk h7, fun h => by rw [getD_keep (show 1 ≠ 6 by decide)] at h; rw [getD_keep (show 1 ≠ 4 by decide)]; exact hN_b5 h, fun h => by rw [getD_keep (show 1 ≠ 7 by decide)] at h; rw [getD_keep (show 1 ≠ 5 by decide)]; exact hN_b6 h, hz0, hz1, by rw [getD_keep (show 1 ≠ 4 by decide), getD_keep (show 1 ≠ 5 by decide)]; exact HF⟩
    · refine wpOp_want rfl rfl (fun K hK => ?_)
      simp only [putAll, z1, z2, z3, z4, z5]
      refine ⟨?_⟩
      go_simp
      exact hK _ _ ⟨[s5, s6, s9, s10, (.pointer (some ⟨b3, 1, none⟩)), s12], by simp only [putAll, z1, z2], s5, s6, s9, s10, (.pointer (some ⟨b3, 1, none⟩)), s12, c_b5, c_b6, b5, b6, rfl, lk h0, lk h1, fun _ => rfl, lk h3, lk h4, lk h5, lk h6, lk h7, fun h => by rw [getD_keep (show 2 ≠ 6 by decide)] at h; rw [getD_keep (show 2 ≠ 4 by decide)]; exact hN_b5 h, fun h => by rw [getD_keep (show 2 ≠ 7 by decide)] at h; rw [getD_keep (show 2 ≠ 5 by decide)]; exact hN_b6 h, hz0, hz1, by rw [getD_keep (show 2 ≠ 4 by decide), getD_keep (show 2 ≠ 5 by decide)]; exact HF⟩
    · have d2 := h2 (hd 2 (by kernel_rfl))
      obtain rfl := d2
      refine wpOp_want rfl rfl (fun K hK => ?_)
      simp only [putAll, z1, z2, z3, z4, z5]
      with_reducible apply gLm HF
      · exact rfl
      · (exact tL)
      · exact intC_tail _ _
      · (first | (exact tR3))
      go_simp
      exact hK _ _ ⟨[s5, s6, s9, s10, (.pointer (some ⟨b3, 1, none⟩)), (.agg (limA 32 b))], by simp only [putAll, z1, z2], s5, s6, s9, s10, (.pointer (some ⟨b3, 1, none⟩)), (.agg (limA 32 b)), c_b5, c_b6, b5, b6, rfl, lk h0, lk h1, lk h2, fun _ => rfl, lk h4, lk h5, lk h6, lk h7, fun h => by rw [getD_keep (show 3 ≠ 6 by decide)] at h; rw [getD_keep (show 3 ≠ 4 by decide)]; exact hN_b5 h, fun h => by rw [getD_keep (show 3 ≠ 7 by decide)] at h; rw [getD_keep (show 3 ≠ 5 by decide)]; exact hN_b6 h, hz0, hz1, by rw [getD_keep (show 3 ≠ 4 by decide), getD_keep (show 3 ≠ 5 by decide)]; exact HF⟩
    · refine wpOp_want rfl rfl (fun K hK => ?_)
      simp only [putAll, z1, z2, z3, z4, z5]
      rw [show listed.getD 4 false = false from hoff] at HF
      skip
      with_reducible apply gA_arr HF
      intro bN W HF
      go_simp
      exact hK _ _ ⟨[(.pointer (some ⟨bN, 0, none⟩)), s6, s9, s10, s11, s12], by simp only [putAll, z1, z2], (.pointer (some ⟨bN, 0, none⟩)), s6, s9, s10, s11, s12, (limA 32 0), c_b6, bN, b6, rfl, lk h0, lk h1, lk h2, lk h3, fun _ => rfl, lk h5, fun h => absurd (hN_b5 (by rw [getD_keep (show 4 ≠ 6 by decide)] at h; exact h)) (by rw [hoff]; decide), lk h7, fun _ => getD_on (by rw [hsz2]; decide), fun h => by rw [getD_keep (show 4 ≠ 7 by decide)] at h; rw [getD_keep (show 4 ≠ 5 by decide)]; exact hN_b6 h, by exact tS2, hz1, by rw [getD_on (show 4 < listed.size by rw [hsz2]; decide), getD_keep (show 4 ≠ 5 by decide)]; exact Fr.mid (A := [(b4, intC false 0, 29), (b3, intC y b, 29), (b2, intC x a, 29)]) HF⟩
    · refine wpOp_want rfl rfl (fun K hK => ?_)
      simp only [putAll, z1, z2, z3, z4, z5]
      rw [show listed.getD 5 false = false from hoff] at HF
      skip
      with_reducible apply gA_arr HF
      intro bN W HF
      go_simp
      exact hK _ _ ⟨[s5, (.pointer (some ⟨bN, 0, none⟩)), s9, s10, s11, s12], by simp only [putAll, z1, z2], s5, (.pointer (some ⟨bN, 0, none⟩)), s9, s10, s11, s12, c_b5, (limA 32 0), b5, bN, rfl, lk h0, lk h1, lk h2, lk h3, lk h4, fun _ => rfl, lk h6, fun h => absurd (hN_b6 (by rw [getD_keep (show 5 ≠ 7 by decide)] at h; exact h)) (by rw [hoff]; decide), fun h => by rw [getD_keep (show 5 ≠ 6 by decide)] at h; rw [getD_keep (show 5 ≠ 4 by decide)]; exact hN_b5 h, fun _ => getD_on (by rw [hsz2]; decide), hz0, by exact tS2, by rw [getD_on (show 5 < listed.size by rw [hsz2]; decide), getD_keep (show 5 ≠ 4 by decide)]; exact Fr.mid (A := ((b4, intC false 0, 29) :: (b3, intC y b, 29) :: (b2, intC x a, 29) :: (onl (listed.getD 4 false) (b5, c_b5, 27)))) HF⟩
    · have d1 := h1 (hd 1 (by kernel_rfl))
      have d4 := h4 (hd 4 (by kernel_rfl))
      obtain rfl := d1
      obtain rfl := d4
      refine wpOp_want rfl rfl (fun K hK => ?_)
      simp only [putAll, z1, z2, z3, z4, z5]
      rw [hd 4 (by kernel_rfl)] at HF
      simp only [onl, if_true, z7, z8] at HF
      with_reducible apply gS HF
      · exact rfl
      · exact rfl
      · (exact tL)
      · (first | (exact tR3))
      · first | exact hz0 | exact tS2
      clear HF
      intro W HF
      simp only [z7, z8, List.append_assoc, List.append_nil] at HF
      go_simp
      exact hK _ _ ⟨[(.pointer (some ⟨b5, 0, none⟩)), s6, s9, (.agg (limA 32 a)), s11, s12], by simp only [putAll, z1, z2], (.pointer (some ⟨b5, 0, none⟩)), s6, s9, (.agg (limA 32 a)), s11, s12, (limA 32 a), c_b6, b5, b6, rfl, lk h0, lk h1, lk h2, lk h3, lk h4, lk h5, fun _ => rfl, lk h7, fun _ => by rw [getD_keep (show 6 ≠ 4 by decide)]; exact hd 4 (by kernel_rfl), fun h => by rw [getD_keep (show 6 ≠ 7 by decide)] at h; rw [getD_keep (show 6 ≠ 5 by decide)]; exact hN_b6 h, rfl, hz1, by rw [getD_keep (show 6 ≠ 4 by decide), getD_keep (show 6 ≠ 5 by decide), hd 4 (by kernel_rfl)]; exact HF⟩
    · have d3 := h3 (hd 3 (by kernel_rfl))
      have d5 := h5 (hd 5 (by kernel_rfl))
      obtain rfl := d3
      obtain rfl := d5
      refine wpOp_want rfl rfl (fun K hK => ?_)
      simp only [putAll, z1, z2, z3, z4, z5]
      rw [hd 5 (by kernel_rfl)] at HF
      simp only [onl, if_true, z7, z8] at HF
      with_reducible apply gS HF
      · exact rfl
      · exact rfl
      · (exact tL)
      · (first | (exact tR3))
      · first | exact hz1 | exact tS2
      clear HF
      intro W HF
      simp only [z7, z8, List.append_assoc, List.append_nil] at HF
      go_simp
      exact hK _ _ ⟨[s5, (.pointer (some ⟨b6, 0, none⟩)), s9, s10, s11, (.agg (limA 32 b))], by simp only [putAll, z1, z2], s5, (.pointer (some ⟨b6, 0, none⟩)), s9, s10, s11, (.agg (limA 32 b)), c_b5, (limA 32 b), b5, b6, rfl, lk h0, lk h1, lk h2, lk h3, lk h4, lk h5, lk h6, fun _ => rfl, fun h => by rw [getD_keep (show 7 ≠ 6 by decide)] at h; rw [getD_keep (show 7 ≠ 4 by decide)]; exact hN_b5 h, fun _ => by rw [getD_keep (show 7 ≠ 5 by decide)]; exact hd 5 (by kernel_rfl), hz0, rfl, by rw [getD_keep (show 7 ≠ 4 by decide), getD_keep (show 7 ≠ 5 by decide), hd 5 (by kernel_rfl)]; exact HF⟩
  rintro listed mm W ⟨s5, s6, s9, s10, s11, s12, c_b5, c_b6, b5, b6, rfl, h0, h1, h2, h3, h4, h5, h6, h7, hN_b5, hN_b6, hz0, hz1, HF⟩ hall
  rw [hall 4 (by decide)] at HF
  rw [hall 5 (by decide)] at HF
  simp only [onl, if_true, z7, z8] at HF
  obtain rfl := h0 (hall 0 (by decide))
  obtain rfl := h1 (hall 1 (by decide))
  obtain rfl := h2 (hall 2 (by decide))
  obtain rfl := h3 (hall 3 (by decide))
  obtain rfl := h4 (hall 4 (by decide))
  obtain rfl := h5 (hall 5 (by decide))
  rw [h6 (hall 6 (by decide))] at HF
  rw [h7 (hall 7 (by decide))] at HF
  clear hall h0 h1 h2 h3 h4 h5 h6 h7 hN_b5 hN_b6 hz0 hz1 F
  have F := HF
  clear HF
  simp only [putAll, z1, z2]
  replace F := F.sub (L' := [(b4, intC false 0, 29), (b5, limA 32 a, 27), (b6, limA 32 b, 27)]) (by repeat (first | exact List.Sublist.slnil | apply List.Sublist.cons_cons | apply List.Sublist.cons))
  go_wp2_with fail
  go_loopw [] (fun wr => ∃ m n : Nat, m < bp 32 ∧ n < bp 32 ∧ Nat.gcd m n = Nat.gcd a b ∧ Fr w wr [(b4, intC false 0, 29), (b5, limA 32 m, 27), (b6, limA 32 n, 27)]) (fun wr => arrOf wr b6)
  case atStart => exact ⟨a, b, HX.out.1, HX.out.2, rfl, F⟩
  case round =>
    obtain ⟨m, n, hm, hn, hg, F⟩ := hrel
    have HGG := Lib.hid hg
    have HF := Lib.hid (arrOf_is hn (F.get (b := b6) tL))
    clear hg
    by_cases h0 : n = 0
    · have gz := fun w => rzero_any hn (z := true) (decide_eq_true h0) w
      have e := HGG.out
      rw [h0, Nat.gcd_zero_right] at e
      have m1 := fun w => rcanonZ (n := false) (x := (g : Int)) hm (by rw [e, HG.out, Int.natAbs_natCast]) (by omega) (fun _ => rfl) w
      clear e h0
      go_wp2_with (first | go_skip | ((go_at_call 125); (with_reducible refine fr_call F (gz _) ?_); (clear F; intro W F); (try dsimp only)) | ((go_at_call 129); (with_reducible refine fr_call F (m1 _) ?_); (clear F; intro W F); (try dsimp only)) | ((with_reducible apply fL F); exact rfl; exact rfl; (exact tL); (exact tR3)) | ((with_reducible apply fLm F); exact rfl; exact rfl; (exact tL); (exact tM3); (exact tR3)) | ((with_reducible apply fA_int F); exact rfl) | ((with_reducible apply fX_int F); exact rfl; exact rfl) | ((with_reducible apply fA_arr F); exact rfl) | ((with_reducible apply fS F); exact rfl; exact rfl; exact rfl; (exact tL); (exact tR3); (exact tS2); clear F; intro W F; simp only [z7, z8] at F))
      exact bodyPost_ret (res_c rfl rfl (Fr.get F tL) (rowInt _ _)) rfl ⟨rfl, F.below⟩
    · have gz := fun w => rzero_any hn (z := false) (decide_eq_false h0) w
      obtain ⟨c, hc⟩ : ∃ c, m / n = c := ⟨_, rfl⟩
      obtain ⟨d, hd⟩ : ∃ d, m % n = d := ⟨_, rfl⟩
      have gd := fun w => rdivide_any hm hn h0 hc hd w
      have hdn : d < n := by rw [← hd]; exact Nat.mod_lt _ (by omega)
      have hg2 : Nat.gcd n d = Nat.gcd a b := by rw [← hd, ← HGG.out, Nat.gcd_comm m n, Nat.gcd_rec n m, Nat.gcd_comm]
      have HG2 := Lib.hid hg2
      clear hc hd hg2
      go_wp2_with (first | go_skip | ((go_at_call 125); (with_reducible refine fr_call F (gz _) ?_); (clear F; intro W F); (try dsimp only)) | ((go_at_call 126); (with_reducible refine fr_call F (gd _) ?_); (clear F; intro W F); (try dsimp only)) | ((with_reducible apply fL F); exact rfl; exact rfl; (exact tL); (exact tR3)) | ((with_reducible apply fLm F); exact rfl; exact rfl; (exact tL); (exact tM3); (exact tR3)) | ((with_reducible apply fA_int F); exact rfl) | ((with_reducible apply fX_int F); exact rfl; exact rfl) | ((with_reducible apply fA_arr F); exact rfl) | ((with_reducible apply fS F); exact rfl; exact rfl; exact rfl; (exact tL); (exact tR3); (exact tS2); clear F; intro W F; simp only [z7, z8] at F))
      (clear F; intro b7 W F; try simp only [Act.put, z6, z1, z2])
      go_wp2_with (first | go_skip | ((with_reducible apply fL F); exact rfl; exact rfl; (exact tL); (exact tR3)) | ((with_reducible apply fLm F); exact rfl; exact rfl; (exact tL); (exact tM3); (exact tR3)) | ((with_reducible apply fA_int F); exact rfl) | ((with_reducible apply fX_int F); exact rfl; exact rfl) | ((with_reducible apply fA_arr F); exact rfl) | ((with_reducible apply fS F); exact rfl; exact rfl; exact rfl; (exact tL); (exact tR3); (exact tS2); clear F; intro W F; simp only [z7, z8] at F))
      (clear F; intro b8 W F; try simp only [Act.put, z6, z1, z2])
      go_wp2_with (first | go_skip | ((with_reducible apply fL F); exact rfl; exact rfl; (exact tL); (exact tR3)) | ((with_reducible apply fLm F); exact rfl; exact rfl; (exact tL); (exact tM3); (exact tR3)) | ((with_reducible apply fA_int F); exact rfl) | ((with_reducible apply fX_int F); exact rfl; exact rfl) | ((with_reducible apply fA_arr F); exact rfl) | ((with_reducible apply fS F); exact rfl; exact rfl; exact rfl; (exact tL); (exact tR3); (exact tS2); clear F; intro W F; simp only [z7, z8] at F))
      try simp only [Act.put, z6, z1, z2]
      refine wp_region_slots mixP [22, 23] (fun l mm W => ∃ (s22 s23 : Value) (c_b5 c_b6 : Array Value), mm = [s22, s23] ∧ (l.getD 0 false = true → s22 = .agg (limA 32 n)) ∧ (l.getD 1 false = true → s23 = .agg (limA 32 d)) ∧ (l.getD 2 false = true → c_b5 = limA 32 n) ∧ (l.getD 3 false = true → c_b6 = limA 32 d) ∧ (l.getD 3 false = false → c_b6 = limA 32 n) ∧ (l.getD 3 false = true → l.getD 0 false = true) ∧ c_b5.size = (limA 32 n).size ∧ c_b6.size = (limA 32 d).size ∧ Fr w W [(b8, limA 32 d, 27), (b7, limA 32 c, 27), (b4, intC false 0, 29), (b5, c_b5, 27), (b6, c_b6, 27)]) (by kernel_rfl) (putAll_self _ _) ?_ ?_ ?_
      · exact ⟨_, _, (limA 32 m), (limA 32 n), rfl, nf, nf, nf, nf, fun _ => rfl, nf, by exact tS2, by exact tS2, F.drew⟩
      · rintro listed mm W ii hi hsz hoff ⟨s22, s23, c_b5, c_b6, rfl, h0, h1, h2, h3, hO_b6, hW_b6_0, hz0, hz1, HF⟩ hd
        have hc := dr_c4 hi
        have hsz2 : listed.size = 4 := hsz
        clear hi hsz
        rcases hc with rfl | rfl | rfl | rfl
        · refine wpOp_want rfl rfl (fun K hK => ?_)
          simp only [putAll, z1, z2, z3, z4, z5]
          have hold := hO_b6 (by cases hx : listed.getD 3 false with | false => rfl | true => exact absurd (hW_b6_0 hx) (by rw [hoff]; decide))
          rw [hold] at HF
          with_reducible apply gL HF
          · exact rfl
          · (exact tL)
          · (first | (exact tR3))
          rw [← hold] at HF
          go_simp
          exact hK _ _ ⟨[(.agg (limA 32 n)), s23], by simp only [putAll, z1, z2], (.agg (limA 32 n)), s23, c_b5, c_b6, rfl, fun _ => rfl, lk h1, lk h2, lk h3, listed_keepF (by decide) hO_b6, fun _ => getD_on (by rw [hsz2]; decide), hz0, hz1, HF⟩
        · refine wpOp_want rfl rfl (fun K hK => ?_)
          simp only [putAll, z1, z2, z3, z4, z5]
          with_reducible apply gL HF
          · exact rfl
          · (exact tL)
          · (first | (exact tR3))
          go_simp
          exact hK _ _ ⟨[s22, (.agg (limA 32 d))], by simp only [putAll, z1, z2], s22, (.agg (limA 32 d)), c_b5, c_b6, rfl, lk h0, fun _ => rfl, lk h2, lk h3, listed_keepF (by decide) hO_b6, fun h => by rw [getD_keep (show 1 ≠ 3 by decide)] at h; rw [getD_keep (show 1 ≠ 0 by decide)]; exact hW_b6_0 h, hz0, hz1, HF⟩
        · have d0 := h0 (hd 0 (by kernel_rfl))
          obtain rfl := d0
          refine wpOp_want rfl rfl (fun K hK => ?_)
          simp only [putAll, z1, z2, z3, z4, z5]
          with_reducible apply gS HF
          · exact rfl
          · exact rfl
          · (exact tL)
          · (first | (exact tR3))
          · first | exact hz0 | exact tS2
          clear HF
          intro W HF
          simp only [z7, z8, List.append_assoc, List.append_nil] at HF
          go_simp
          exact hK _ _ ⟨[(.agg (limA 32 n)), s23], by simp only [putAll, z1, z2], (.agg (limA 32 n)), s23, (limA 32 n), c_b6, rfl, lk h0, lk h1, fun _ => rfl, lk h3, listed_keepF (by decide) hO_b6, fun h => by rw [getD_keep (show 2 ≠ 3 by decide)] at h; rw [getD_keep (show 2 ≠ 0 by decide)]; exact hW_b6_0 h, rfl, hz1, HF⟩
        · have d1 := h1 (hd 1 (by kernel_rfl))
          obtain rfl := d1
          refine wpOp_want rfl rfl (fun K hK => ?_)
          simp only [putAll, z1, z2, z3, z4, z5]
          with_reducible apply gS HF
          · exact rfl
          · exact rfl
          · (exact tL)
          · (first | (exact tR3))
          · first | exact hz1 | exact tS2
          clear HF
          intro W HF
          simp only [z7, z8, List.append_assoc, List.append_nil] at HF
          go_simp
          exact hK _ _ ⟨[s22, (.agg (limA 32 d))], by simp only [putAll, z1, z2], s22, (.agg (limA 32 d)), c_b5, (limA 32 d), rfl, lk h0, lk h1, lk h2, fun _ => rfl, fun h => absurd h (by rw [getD_on (show 3 < listed.size by rw [hsz2]; decide)]; decide), fun _ => by rw [getD_keep (show 3 ≠ 0 by decide)]; exact hd 0 (by kernel_rfl), hz0, rfl, HF⟩
      rintro listed mm W ⟨s22, s23, c_b5, c_b6, rfl, h0, h1, h2, h3, hO_b6, hW_b6_0, hz0, hz1, HF⟩ hall
      obtain rfl := h0 (hall 0 (by decide))
      obtain rfl := h1 (hall 1 (by decide))
      rw [h2 (hall 2 (by decide))] at HF
      rw [h3 (hall 3 (by decide))] at HF
      clear hall h0 h1 h2 h3 hO_b6 hW_b6_0 hz0 hz1 F
      have F := HF
      clear HF
      simp only [putAll, z1, z2]
      replace F := F.sub (L' := [(b4, intC false 0, 29), (b5, limA 32 n, 27), (b6, limA 32 d, 27)]) (by repeat (first | exact List.Sublist.slnil | apply List.Sublist.cons_cons | apply List.Sublist.cons))
      go_wp2_with fail
      go_roundw
      case rel => exact ⟨n, d, hn, by omega, HG2.out, F⟩
      case measure =>
        rw [HF.out, arrOf_is (m := d) (Nat.lt_trans hdn hn) (F.get (b := b6) tL)]
        exact hdn
theorem rgcdZ {x y : Int} (hx : x.natAbs < bp 32) (hy : y.natAbs < bp 32) (w : World) : Calls Tryz.prog 98 #[.agg (IC x), .agg (IC y)] w (RetB (.agg (IC (Int.gcd x y))) w) := rgcd_any hx hy w
end
section
open Go.RowKit
set_option maxHeartbeats 2000000
theorem rnd_lt {x : Bool} {a : Nat} {y : Bool} {b : Nat} {p m : Int} : (rndR (okR x a y b) (sZ x a) (sZ y b) p m).1.natAbs < bp 18 := by
  unfold rndR
  have k0 := bp_pos 18
  split
  · simpa using k0
  rename_i hv
  rw [Classical.not_not] at hv
  split
  · simpa using k0
  rename_i hp
  split
  · simpa using k0
  obtain ⟨n, d, ⟨h1, h2, h3⟩, hn, hd, hd0⟩ := okR_ints hv
  rw [h2, h3]
  have hN := b_ten hn (show p.toNat ≤ 9 by omega)
  have hu := Nat.lt_of_le_of_lt (div_le_abs (n * ((10 ^ p.toNat : Nat) : Int)) d) hN
  have k1 : bp 18 = bp 17 * 4294967296 := bp_succ 17
  dsimp only
  split
  · dsimp only
    omega
  · split <;> dsimp only <;> omega
def rndI (v : Prop) [Decidable v] (n d p m : Int) : Int × Int :=
  let r := rndR v n d p m
  if r.2 ≠ 0 then (0, r.2) else if -1000000000000000 ≤ r.1 ∧ r.1 ≤ 1000000000000000 then (r.1, 0) else (0, 33)
set_option maxRecDepth 100000 in
theorem roundInt_any {x : Bool} {a : Nat} {y : Bool} {b : Nat} (ha : a < bp 32) (hb : b < bp 32) {p m : Int} {r : Int × Int} (hr : rndI (okR x a y b) (sZ x a) (sZ y b) p m = r) (w : World) : Calls Tryz.prog 17 #[.agg (ratC x a y b), .int .i64 p, .int .i64 m] w (RetB (.tuple #[.int .i64 r.1, .int .i64 r.2]) w) := by
  have F := Fr.start w
  have hl := rnd_lt (x := x) (a := a) (y := y) (b := b) (p := p) (m := m)
  unfold rndI at hr
  obtain ⟨s, hs⟩ : ∃ s, rndR (okR x a y b) (sZ x a) (sZ y b) p m = s := ⟨_, rfl⟩
  have g1 := fun w => round_any ha hb hs w
  rw [hs] at hr hl
  obtain ⟨z, e⟩ := s
  dsimp only at hr hl g1
  have g2 := fun w => toInt_any (z := z) (Nat.lt_of_lt_of_le hl (bp_le (by decide))) rfl w
  have HR := Lib.hid hr
  clear hr hl hs ha hb
  go_enter Tryz.func17, Tryz.ntmps17
  go_wp2_with (first | go_skip | ((with_reducible apply fL F); exact rfl; exact rfl; (exact tL); (exact tR2)) | ((with_reducible apply fA_int F); exact rfl) | ((with_reducible apply fX_rat F); exact rfl; exact rfl) | ((with_reducible apply fS F); exact rfl; exact rfl; exact rfl; (exact tL); (exact tR2); (exact tS2); clear F; intro W F; simp only [z7, z8] at F))
  (clear F; intro b3 W F; try simp only [Act.put, z6, z1, z2])
  go_wp2_with (first | go_skip | ((go_at_call 25); (with_reducible refine fr_call F (g1 _) ?_); (clear F; intro W F); (try dsimp only)) | ((with_reducible apply fL F); exact rfl; exact rfl; (exact tL); (exact tR2)) | ((with_reducible apply fA_int F); exact rfl) | ((with_reducible apply fX_rat F); exact rfl; exact rfl) | ((with_reducible apply fS F); exact rfl; exact rfl; exact rfl; (exact tL); (exact tR2); (exact tS2); clear F; intro W F; simp only [z7, z8] at F))
  (clear F; intro b8 W F; try simp only [Act.put, z6, z1, z2])
  by_cases he : e = 0
  · have hr := HR.out
    rw [if_neg (by rw [Classical.not_not]; exact he)] at hr
    subst he
    clear HR
    by_cases hz : -1000000000000000 ≤ z ∧ z ≤ 1000000000000000
    · rw [if_pos hz] at hr
      subst hr
      rw [toI, if_pos (by omega)] at g2
      have t1 : decide (z < -1000000000000000) = false := decide_eq_false (by omega)
      have t2 : decide (1000000000000000 < z) = false := decide_eq_false (by omega)
      clear hz
      go_wp2_with (first | go_skip | ((go_at_call 54); (with_reducible refine fr_call F (g2 _) ?_); (clear F; intro W F); (try dsimp only)) | ((with_reducible apply fL F); exact rfl; exact rfl; (exact tL); (exact tR2)) | ((with_reducible apply fA_int F); exact rfl) | ((with_reducible apply fX_rat F); exact rfl; exact rfl) | ((with_reducible apply fS F); exact rfl; exact rfl; exact rfl; (exact tL); (exact tR2); (exact tS2); clear F; intro W F; simp only [z7, z8] at F))
      go_ret2
      exact ⟨rfl, F.below⟩
    · rw [if_neg hz] at hr
      subst hr
      by_cases h1 : -9223372036854775808 ≤ z ∧ z < 9223372036854775808
      · rw [toI, if_pos h1] at g2
        by_cases h2 : z < -1000000000000000
        · have t1 : decide (z < -1000000000000000) = true := decide_eq_true h2
          clear hz h1 h2
          go_wp2_with (first | go_skip | ((go_at_call 54); (with_reducible refine fr_call F (g2 _) ?_); (clear F; intro W F); (try dsimp only)) | ((with_reducible apply fL F); exact rfl; exact rfl; (exact tL); (exact tR2)) | ((with_reducible apply fA_int F); exact rfl) | ((with_reducible apply fX_rat F); exact rfl; exact rfl) | ((with_reducible apply fS F); exact rfl; exact rfl; exact rfl; (exact tL); (exact tR2); (exact tS2); clear F; intro W F; simp only [z7, z8] at F))
          go_ret2
          exact ⟨rfl, F.below⟩
        · have t1 : decide (z < -1000000000000000) = false := decide_eq_false h2
          have t2 : decide (1000000000000000 < z) = true := decide_eq_true (by omega)
          clear hz h1 h2
          go_wp2_with (first | go_skip | ((go_at_call 54); (with_reducible refine fr_call F (g2 _) ?_); (clear F; intro W F); (try dsimp only)) | ((with_reducible apply fL F); exact rfl; exact rfl; (exact tL); (exact tR2)) | ((with_reducible apply fA_int F); exact rfl) | ((with_reducible apply fX_rat F); exact rfl; exact rfl) | ((with_reducible apply fS F); exact rfl; exact rfl; exact rfl; (exact tL); (exact tR2); (exact tS2); clear F; intro W F; simp only [z7, z8] at F))
          go_ret2
          exact ⟨rfl, F.below⟩
      · rw [toI, if_neg h1] at g2
        clear hz h1
        go_wp2_with (first | go_skip | ((go_at_call 54); (with_reducible refine fr_call F (g2 _) ?_); (clear F; intro W F); (try dsimp only)) | ((with_reducible apply fL F); exact rfl; exact rfl; (exact tL); (exact tR2)) | ((with_reducible apply fA_int F); exact rfl) | ((with_reducible apply fX_rat F); exact rfl; exact rfl) | ((with_reducible apply fS F); exact rfl; exact rfl; exact rfl; (exact tL); (exact tR2); (exact tS2); clear F; intro W F; simp only [z7, z8] at F))
        go_ret2
        exact ⟨rfl, F.below⟩
  · have hr := HR.out
    rw [if_pos he] at hr
    subst hr
    clear HR g2
    go_wp2_with (first | go_skip | ((with_reducible apply fL F); exact rfl; exact rfl; (exact tL); (exact tR2)) | ((with_reducible apply fA_int F); exact rfl) | ((with_reducible apply fX_rat F); exact rfl; exact rfl) | ((with_reducible apply fS F); exact rfl; exact rfl; exact rfl; (exact tL); (exact tR2); (exact tS2); clear F; intro W F; simp only [z7, z8] at F))
    go_ret2
    exact ⟨rfl, F.below⟩
end
end Go.Proofs.YtpaodheilchfnaaGreatDoor
