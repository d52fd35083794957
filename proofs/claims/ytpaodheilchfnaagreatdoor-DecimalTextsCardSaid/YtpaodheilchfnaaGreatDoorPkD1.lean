/-
  What the laws lean on.
-/
import Derived.Test.YtpaodheilchfnaaGreatDoorPkP1
import Derived.Test.YtpaodheilchfnaaGreatDoorPkP3
import Derived.Test.YtpaodheilchfnaaGreatDoorPkP4
import Derived.Test.YtpaodheilchfnaaGreatDoorPkP5
import Derived.Test.YtpaodheilchfnaaGreatDoorPkP6
import Derived.Deep.RegionLaw
import Derived.StillTailTactics
namespace Go.Proofs.YtpaodheilchfnaaGreatDoor
set_option linter.unusedVariables false
set_option linter.unusedSimpArgs false
section
open Go.RowKit
set_option maxHeartbeats 4000000
set_option maxRecDepth 100000 in
theorem rlimbs_any {m n : Nat} (lm : m < bp 32) (hu : Used m n) (w : World) : Calls Tryz.prog 130 #[.agg (limA 32 m)] w (RetB (.int .i64 n) w) := by
  have F := Fr.start w
  have HU := Lib.hid hu
  have HL := Lib.hid lm
  clear hu lm
  go_enter Tryz.func130, Tryz.ntmps130
  go_wp2_with (first | go_skip | ((with_reducible apply fX_arr F); exact rfl; exact rfl))
  (clear F; intro b1 W F; try simp only [Act.put, List.setIfInBounds_toArray, List.set_cons_zero, List.set_cons_succ])
  go_wp2_with (first | go_skip | ((with_reducible apply fX_arr F); exact rfl; exact rfl))
  go_loopw [3] (fun iv wr => ∃ i : Nat, i ≤ 32 ∧ iv = .int .i64 i ∧ m < bp i ∧ Fr w wr [(b1, limA 32 m, 27)]) (fun iv _ => (intOf iv).toNat)
  case atStart => exact ⟨32, by omega, rfl, HL.out, F⟩
  case round =>
    clear F
    obtain ⟨i, hi, rfl, he, F⟩ := hrel
    have HEI := Lib.hid he
    clear he HL
    cases i with
    | zero =>
      have H0 := Lib.hid (HU.out.unique ⟨HEI.out, .inl rfl⟩)
      go_wp2_with fail
      go_ret
      exact ⟨ret_int (by first | (rw [H0.out]; done) | (rw [H0.out]; rfl)), F.below⟩
    | succ i =>
      have c1 := (F.get Lies.here).cell (limA_at (m := m) (show i < 32 by omega))
      obtain ⟨x, hx⟩ : ∃ x, lim m i = x := ⟨_, rfl⟩
      rw [hx] at c1
      have HX := Lib.hid hx
      have e1 : IntKind.i64.wrap (((i + 1 : Nat) : Int) - 1) = (i : Int) := by rw [show ((i + 1 : Nat) : Int) - 1 = (i : Int) by omega]; exact IntWalk.i64_in _ (by omega)
      have i0 : (0 : Int) ≤ (i : Int) := by omega
      have i1 : (i : Int) < 32 := by omega
      have i2 : i < 32 := by omega
      have i3 : (0 : Int) < (i : Int) + 1 := by omega
      clear hx
      by_cases h0 : x = 0
      · have H0 := Lib.hid (lt_pred HEI.out (by rw [HX.out]; exact h0))
        subst h0
        clear HX
        go_wp2_with fail
        go_roundw
        case rel => exact ⟨i, by omega, by go_num, H0.out, F⟩
        case measure => simp [intOf]
      · have H0 := Lib.hid (HU.out.unique ⟨HEI.out, .inr (le_of_lim (by rw [Nat.add_sub_cancel, HX.out]; exact h0))⟩)
        have g1 : ((x : Int) == 0) = false := by rw [beq_eq_false_iff_ne]; omega
        clear HX
        go_wp2_with fail
        go_ret
        exact ⟨ret_int (by first | (rw [H0.out]; done) | (rw [H0.out]; rfl)), F.below⟩
theorem used_zero {m n : Nat} (h : Used m n) : n = 0 ↔ m = 0 := by
  constructor
  · rintro rfl
    have := h.1
    rw [bp_zero] at this
    omega
  · rintro rfl
    exact (Used.unique h ⟨bp_pos 0, .inl rfl⟩)
set_option maxRecDepth 100000 in
theorem rzero_any {m : Nat} (lm : m < bp 32) {z : Bool} (hz : decide (m = 0) = z) (w : World) : Calls Tryz.prog 125 #[.agg (limA 32 m)] w (RetB (.bool z) w) := by
  have F := Fr.start w
  obtain ⟨n, hn, hu⟩ := used_ex m lm
  have g1 := fun w => rlimbs_any lm hu w
  have e : ((n : Int) == 0) = z := by
    rw [← hz, Bool.eq_iff_iff, beq_iff_eq, decide_eq_true_eq, ← used_zero hu]
    omega
  clear hz hu hn lm
  go_enter Tryz.func125, Tryz.ntmps125
  go_wp2_with (first | go_skip | ((with_reducible apply fL F); exact rfl; exact rfl; (exact tL); (exact tR3)) | ((with_reducible apply fX_arr F); exact rfl; exact rfl))
  (clear F; intro b1 W F; try simp only [Act.put, List.setIfInBounds_toArray, List.set_cons_zero, List.set_cons_succ])
  go_wp2_with (first | go_skip | ((go_at_call 130); (with_reducible refine fr_call F (g1 _) ?_); (clear F; intro W F); (try dsimp only)) | ((with_reducible apply fL F); exact rfl; exact rfl; (exact tL); (exact tR3)) | ((with_reducible apply fX_arr F); exact rfl; exact rfl))
  go_ret
  exact ⟨rfl, F.below⟩
set_option maxRecDepth 100000 in
theorem rcompare_any {a b : Nat} (la : a < bp 32) (lb : b < bp 32) (w : World) : Calls Tryz.prog 95 #[.agg (limA 32 a), .agg (limA 32 b)] w (RetB (.int .i64 (cmpN a b)) w) := by
  have F := Fr.start w
  have HE := Lib.hid (show a / bp 32 = b / bp 32 by rw [div_bp_zero la, div_bp_zero lb])
  clear la lb
  obtain ⟨v, hv⟩ : ∃ v, cmpN a b = v := ⟨_, rfl⟩
  rw [hv]
  have HV := Lib.hid hv
  clear hv
  go_enter Tryz.func95, Tryz.ntmps95
  go_wp2_with (first | go_skip | ((with_reducible apply fX_arr F); exact rfl; exact rfl))
  (clear F; intro b2 W F; try simp only [Act.put, List.setIfInBounds_toArray, List.set_cons_zero, List.set_cons_succ])
  go_wp2_with (first | go_skip | ((with_reducible apply fX_arr F); exact rfl; exact rfl))
  (clear F; intro b3 W F; try simp only [Act.put, List.setIfInBounds_toArray, List.set_cons_zero, List.set_cons_succ])
  go_wp2_with (first | go_skip | ((with_reducible apply fX_arr F); exact rfl; exact rfl))
  go_loopw [5] (fun iv wr => ∃ i : Nat, i ≤ 32 ∧ iv = .int .i64 ((i : Int) - 1) ∧ a / bp i = b / bp i ∧ Fr w wr [(b3, limA 32 b, 27), (b2, limA 32 a, 27)]) (fun iv _ => (intOf iv + 1).toNat)
  case atStart => exact ⟨32, by omega, rfl, HE.out, F⟩
  case round =>
    clear F
    obtain ⟨i, hi, rfl, he, F⟩ := hrel
    have HEI := Lib.hid he
    clear he HE
    cases i with
    | zero =>
      have h0 := cmpN_eq HEI.out
      rw [HV.out] at h0
      have H0 := Lib.hid h0
      clear h0
      go_wp2_with fail
      go_ret
      exact ⟨ret_int H0.out.symm, F.below⟩
    | succ i =>
      obtain ⟨s1, s2, s3⟩ := cmpN_step HEI.out
      have HS := Lib.hid (And.intro s1 (And.intro s2 s3))
      clear s1 s2 s3
      have c1 := (F.get (Lies.tl Lies.here)).cell (limA_at (m := a) (show i < 32 by omega))
      have c2 := (F.get Lies.here).cell (limA_at (m := b) (show i < 32 by omega))
      obtain ⟨x, hx⟩ : ∃ x, lim a i = x := ⟨_, rfl⟩
      obtain ⟨y, hy⟩ : ∃ y, lim b i = y := ⟨_, rfl⟩
      rw [hx] at c1
      rw [hy] at c2
      rw [hx, hy, HV.out] at HS
      have e1 : ((i + 1 : Nat) : Int) - 1 = (i : Int) := by omega
      rw [e1]
      have i0 : (0 : Int) ≤ (i : Int) := by omega
      have i1 : (i : Int) < 32 := by omega
      have i2 : i < 32 := by omega
      clear hx hy e1
      by_cases hlt : x < y
      · have H0 := Lib.hid (HS.out.1 hlt)
        have g1 := decide_eq_true hlt
        clear HS
        go_wp2_with fail
        go_quiet (fail)
        go_wp2_with fail
        go_ret
        exact ⟨ret_int H0.out.symm, bnext F.below (bdn _ _)⟩
      · have g1 := decide_eq_false hlt
        by_cases hgt : y < x
        · have H0 := Lib.hid (HS.out.2.1 hgt)
          have g2 := decide_eq_true hgt
          clear HS
          go_wp2_with fail
          go_quiet (fail)
          go_wp2_with fail
          go_quiet (fail)
          go_wp2_with fail
          go_ret
          exact ⟨ret_int H0.out.symm, bnext F.below (bdn2 _ _ _)⟩
        · have g2 := decide_eq_false hgt
          have H0 := Lib.hid (HS.out.2.2 (by omega))
          clear HS
          go_wp2_with fail
          go_quiet (fail)
          go_wp2_with fail
          go_quiet (fail)
          go_wp2_with fail
          go_roundw
          case rel => exact ⟨i, by omega, by go_num, H0.out, F.drewN _⟩
          case measure => simp [intOf]
end
section
open Go.RowKit
set_option maxHeartbeats 4000000
set_option maxRecDepth 100000 in
theorem rcanon_any {neg : Bool} {m : Nat} (lm : m < bp 32) {z : Bool} (hz : decide (m = 0) = z) (w : World) : Calls Tryz.prog 129 #[.bool neg, .agg (limA 32 m)] w (RetB (.agg (intC (neg && !z) m)) w) := by
  have F := Fr.start w
  have g1 := fun w => rzero_any lm hz w
  clear hz lm
  go_enter Tryz.func129, Tryz.ntmps129
  go_wp2_with (first | go_skip | ((with_reducible apply fL F); exact rfl; exact rfl; (exact tL); (exact tR3)) | ((with_reducible apply fA_int F); exact rfl) | ((with_reducible apply fX_arr F); exact rfl; exact rfl) | ((with_reducible apply fS F); exact rfl; exact rfl; exact rfl; (exact tL); (exact tR3); (exact tS2); clear F; intro W F; simp only [List.cons_append, List.nil_append] at F) | ((with_reducible apply fB_int); exact rfl; exact rfl; exact rfl))
  (clear F; intro b3 W F; try simp only [Act.put, List.setIfInBounds_toArray, List.set_cons_zero, List.set_cons_succ])
  go_wp2_with (first | go_skip | ((with_reducible apply fL F); exact rfl; exact rfl; (exact tL); (exact tR3)) | ((with_reducible apply fA_int F); exact rfl) | ((with_reducible apply fX_arr F); exact rfl; exact rfl) | ((with_reducible apply fS F); exact rfl; exact rfl; exact rfl; (exact tL); (exact tR3); (exact tS2); clear F; intro W F; simp only [List.cons_append, List.nil_append] at F) | ((with_reducible apply fB_int); exact rfl; exact rfl; exact rfl))
  (clear F; intro b4 W F; try simp only [Act.put, List.setIfInBounds_toArray, List.set_cons_zero, List.set_cons_succ])
  go_wp2_with (first | go_skip | ((with_reducible apply fL F); exact rfl; exact rfl; (exact tL); (exact tR3)) | ((with_reducible apply fA_int F); exact rfl) | ((with_reducible apply fX_arr F); exact rfl; exact rfl) | ((with_reducible apply fS F); exact rfl; exact rfl; exact rfl; (exact tL); (exact tR3); (exact tS2); clear F; intro W F; simp only [List.cons_append, List.nil_append] at F) | ((with_reducible apply fB_int); exact rfl; exact rfl; exact rfl))
  cases neg
  · skip
    try simp only [Act.put, List.setIfInBounds_toArray, List.set_cons_zero, List.set_cons_succ]
    have hpl : Tryz.prog.follows .mixedOrders = true := by kernel_rfl
    refine wp_region_slots hpl [5, 6, 7, 8, 9, 10, 11, 12] (fun l mm W => ∃ (s5 s6 s7 s8 s9 s10 s11 s12 : Value) (c_b4 : Array Value), mm = [s5, s6, s7, s8, s9, s10, s11, s12] ∧ (l.getD 0 false = true → s5 = .bool false) ∧ (l.getD 1 false = true → s6 = .bool false) ∧ (l.getD 2 false = true → s7 = undef) ∧ (l.getD 3 false = true → s8 = undef) ∧ (l.getD 4 false = true → s9 = undef) ∧ (l.getD 5 false = true → s10 = .bool false) ∧ (l.getD 6 false = true → s11 = .agg (limA 32 m)) ∧ (l.getD 7 false = true → s12 = .agg (intC false m)) ∧ (l.getD 8 false = true → c_b4 = intC false m) ∧ c_b4.size = (intC false m).size ∧ Fr w W [(b4, c_b4, 29), (b3, limA 32 m, 27)]) (by kernel_rfl) rfl ?_ ?_ ?_
    · exact ⟨_, _, _, _, _, _, _, _, (intC false 0), rfl, fun h => absurd h (by decide), fun h => absurd h (by decide), fun h => absurd h (by decide), fun h => absurd h (by decide), fun h => absurd h (by decide), fun h => absurd h (by decide), fun h => absurd h (by decide), fun h => absurd h (by decide), fun h => absurd h (by decide), by first | (focus (simp only [IC_size, intC_size, limA_size, RC_size, ratC_size]; done)) | exact rfl, F.drew⟩
    · rintro listed mm W ii hi hsz hoff ⟨s5, s6, s7, s8, s9, s10, s11, s12, c_b4, rfl, h0, h1, h2, h3, h4, h5, h6, h7, h8, hz0, HF⟩ hd
      have hc : ii = 0 ∨ ii = 1 ∨ ii = 2 ∨ ii = 3 ∨ ii = 4 ∨ ii = 5 ∨ ii = 6 ∨ ii = 7 ∨ ii = 8 := by
        have hi2 : ii < 9 := hi
        omega
      have hsz2 : listed.size = 9 := hsz
      clear hi hsz
      rcases hc with rfl | rfl | rfl | rfl | rfl | rfl | rfl | rfl | rfl
      · refine wpOp_want rfl rfl (fun K hK => ?_)
        simp only [putAll, List.set_cons_zero, List.set_cons_succ, List.getElem_toArray, List.getElem_cons_succ, List.getElem_cons_zero]
        refine ⟨?_⟩
        go_simp
        exact hK _ _ ⟨[(.bool false), s6, s7, s8, s9, s10, s11, s12], by simp only [putAll, List.set_cons_zero, List.set_cons_succ], (.bool false), s6, s7, s8, s9, s10, s11, s12, c_b4, rfl, fun _ => rfl, lk h1, lk h2, lk h3, lk h4, lk h5, lk h6, lk h7, lk h8, hz0, HF⟩
      · have d0 := h0 (hd 0 (by kernel_rfl))
        obtain rfl := d0
        refine wpOp_want rfl rfl (fun K hK => ?_)
        simp only [putAll, List.set_cons_zero, List.set_cons_succ, List.getElem_toArray, List.getElem_cons_succ, List.getElem_cons_zero]
        refine ⟨?_⟩
        go_simp
        exact hK _ _ ⟨[(.bool false), (.bool false), s7, s8, s9, s10, s11, s12], by simp only [putAll, List.set_cons_zero, List.set_cons_succ], (.bool false), (.bool false), s7, s8, s9, s10, s11, s12, c_b4, rfl, lk h0, fun _ => rfl, lk h2, lk h3, lk h4, lk h5, lk h6, lk h7, lk h8, hz0, HF⟩
      · have d1 := h1 (hd 1 (by kernel_rfl))
        obtain rfl := d1
        refine wpOp_skip rfl rfl (fun K hK => ?_)
        simp only [putAll, List.set_cons_zero, List.set_cons_succ, List.getElem_toArray, List.getElem_cons_succ, List.getElem_cons_zero]
        go_simp
        exact hK _ _ ⟨[s5, (.bool false), (undef), s8, s9, s10, s11, s12], by simp only [putAll, List.set_cons_zero, List.set_cons_succ], s5, (.bool false), (undef), s8, s9, s10, s11, s12, c_b4, rfl, lk h0, lk h1, fun _ => rfl, lk h3, lk h4, lk h5, lk h6, lk h7, lk h8, hz0, HF⟩
      · have d1 := h1 (hd 1 (by kernel_rfl))
        have d2 := h2 (hd 2 (by kernel_rfl))
        obtain rfl := d1
        obtain rfl := d2
        refine wpOp_skip rfl rfl (fun K hK => ?_)
        simp only [putAll, List.set_cons_zero, List.set_cons_succ, List.getElem_toArray, List.getElem_cons_succ, List.getElem_cons_zero]
        go_simp
        exact hK _ _ ⟨[s5, (.bool false), (undef), (undef), s9, s10, s11, s12], by simp only [putAll, List.set_cons_zero, List.set_cons_succ], s5, (.bool false), (undef), (undef), s9, s10, s11, s12, c_b4, rfl, lk h0, lk h1, lk h2, fun _ => rfl, lk h4, lk h5, lk h6, lk h7, lk h8, hz0, HF⟩
      · have d1 := h1 (hd 1 (by kernel_rfl))
        have d3 := h3 (hd 3 (by kernel_rfl))
        obtain rfl := d1
        obtain rfl := d3
        refine wpOp_skip rfl rfl (fun K hK => ?_)
        simp only [putAll, List.set_cons_zero, List.set_cons_succ, List.getElem_toArray, List.getElem_cons_succ, List.getElem_cons_zero]
        go_simp
        exact hK _ _ ⟨[s5, (.bool false), s7, (undef), (undef), s10, s11, s12], by simp only [putAll, List.set_cons_zero, List.set_cons_succ], s5, (.bool false), s7, (undef), (undef), s10, s11, s12, c_b4, rfl, lk h0, lk h1, lk h2, lk h3, fun _ => rfl, lk h5, lk h6, lk h7, lk h8, hz0, HF⟩
      · have d1 := h1 (hd 1 (by kernel_rfl))
        have d4 := h4 (hd 4 (by kernel_rfl))
        obtain rfl := d1
        obtain rfl := d4
        refine wpOp_want rfl rfl (fun K hK => ?_)
        simp only [putAll, List.set_cons_zero, List.set_cons_succ, List.getElem_toArray, List.getElem_cons_succ, List.getElem_cons_zero]
        refine ⟨?_⟩
        go_simp
        exact hK _ _ ⟨[s5, (.bool false), s7, s8, (undef), (.bool false), s11, s12], by simp only [putAll, List.set_cons_zero, List.set_cons_succ], s5, (.bool false), s7, s8, (undef), (.bool false), s11, s12, c_b4, rfl, lk h0, lk h1, lk h2, lk h3, lk h4, fun _ => rfl, lk h6, lk h7, lk h8, hz0, HF⟩
      · refine wpOp_want rfl rfl (fun K hK => ?_)
        simp only [putAll, List.set_cons_zero, List.set_cons_succ, List.getElem_toArray, List.getElem_cons_succ, List.getElem_cons_zero]
        with_reducible apply gL HF
        · exact rfl
        · (exact tL)
        · (first | (exact tR3))
        go_simp
        exact hK _ _ ⟨[s5, s6, s7, s8, s9, s10, (.agg (limA 32 m)), s12], by simp only [putAll, List.set_cons_zero, List.set_cons_succ], s5, s6, s7, s8, s9, s10, (.agg (limA 32 m)), s12, c_b4, rfl, lk h0, lk h1, lk h2, lk h3, lk h4, lk h5, fun _ => rfl, lk h7, lk h8, hz0, HF⟩
      · have d5 := h5 (hd 5 (by kernel_rfl))
        have d6 := h6 (hd 6 (by kernel_rfl))
        obtain rfl := d5
        obtain rfl := d6
        refine wpOp_want rfl rfl (fun K hK => ?_)
        simp only [putAll, List.set_cons_zero, List.set_cons_succ, List.getElem_toArray, List.getElem_cons_succ, List.getElem_cons_zero]
        with_reducible apply gB_int
        · exact rfl
        · exact rfl
        go_simp
        exact hK _ _ ⟨[s5, s6, s7, s8, s9, (.bool false), (.agg (limA 32 m)), (.agg (intC false m))], by simp only [putAll, List.set_cons_zero, List.set_cons_succ], s5, s6, s7, s8, s9, (.bool false), (.agg (limA 32 m)), (.agg (intC false m)), c_b4, rfl, lk h0, lk h1, lk h2, lk h3, lk h4, lk h5, lk h6, fun _ => rfl, lk h8, hz0, HF⟩
      · have d7 := h7 (hd 7 (by kernel_rfl))
        obtain rfl := d7
        refine wpOp_want rfl rfl (fun K hK => ?_)
        simp only [putAll, List.set_cons_zero, List.set_cons_succ, List.getElem_toArray, List.getElem_cons_succ, List.getElem_cons_zero]
        with_reducible apply gS HF
        · exact rfl
        · exact rfl
        · (exact tL)
        · (first | (exact tR3))
        · first | exact hz0 | first | (focus (simp only [IC_size, intC_size, limA_size, RC_size, ratC_size]; done)) | exact rfl
        clear HF
        intro W HF
        simp only [List.cons_append, List.nil_append] at HF
        go_simp
        exact hK _ _ ⟨[s5, s6, s7, s8, s9, s10, s11, (.agg (intC false m))], by simp only [putAll, List.set_cons_zero, List.set_cons_succ], s5, s6, s7, s8, s9, s10, s11, (.agg (intC false m)), (intC false m), rfl, lk h0, lk h1, lk h2, lk h3, lk h4, lk h5, lk h6, lk h7, fun _ => rfl, rfl, HF⟩
    rintro listed mm W ⟨s5, s6, s7, s8, s9, s10, s11, s12, c_b4, rfl, h0, h1, h2, h3, h4, h5, h6, h7, h8, hz0, HF⟩ hall
    obtain rfl := h0 (hall 0 (by decide))
    obtain rfl := h1 (hall 1 (by decide))
    obtain rfl := h2 (hall 2 (by decide))
    obtain rfl := h3 (hall 3 (by decide))
    obtain rfl := h4 (hall 4 (by decide))
    obtain rfl := h5 (hall 5 (by decide))
    obtain rfl := h6 (hall 6 (by decide))
    obtain rfl := h7 (hall 7 (by decide))
    rw [h8 (hall 8 (by decide))] at HF
    clear hall h0 h1 h2 h3 h4 h5 h6 h7 h8 hz0 F
    have F := HF
    clear HF
    simp only [putAll, List.set_cons_zero, List.set_cons_succ]
    go_wp2_with (first | go_skip | ((with_reducible apply fL F); exact rfl; exact rfl; (exact tL); (exact tR3)) | ((with_reducible apply fA_int F); exact rfl) | ((with_reducible apply fX_arr F); exact rfl; exact rfl) | ((with_reducible apply fS F); exact rfl; exact rfl; exact rfl; (exact tL); (exact tR3); (exact tS2); clear F; intro W F; simp only [List.cons_append, List.nil_append] at F) | ((with_reducible apply fB_int); exact rfl; exact rfl; exact rfl))
    exact bodyPost_ret (res_c rfl rfl (Fr.get F tL) (rowInt _ _)) rfl ⟨rfl, F.below⟩
  · skip
    try simp only [Act.put, List.setIfInBounds_toArray, List.set_cons_zero, List.set_cons_succ]
    have hpl : Tryz.prog.follows .mixedOrders = true := by kernel_rfl
    refine wp_region_slots hpl [5, 6, 7, 8, 9, 10, 11, 12] (fun l mm W => ∃ (s5 s6 s7 s8 s9 s10 s11 s12 : Value) (c_b4 : Array Value), mm = [s5, s6, s7, s8, s9, s10, s11, s12] ∧ (l.getD 0 false = true → s5 = .bool true) ∧ (l.getD 1 false = true → s6 = .bool true) ∧ (l.getD 2 false = true → s7 = .agg (limA 32 m)) ∧ (l.getD 3 false = true → s8 = .bool z) ∧ (l.getD 4 false = true → s9 = .bool (!z)) ∧ (l.getD 5 false = true → s10 = .bool (!z)) ∧ (l.getD 6 false = true → s11 = .agg (limA 32 m)) ∧ (l.getD 7 false = true → s12 = .agg (intC (!z) m)) ∧ (l.getD 8 false = true → c_b4 = intC (!z) m) ∧ c_b4.size = (intC (!z) m).size ∧ Fr w W [(b4, c_b4, 29), (b3, limA 32 m, 27)]) (by kernel_rfl) rfl ?_ ?_ ?_
    · exact ⟨_, _, _, _, _, _, _, _, (intC false 0), rfl, fun h => absurd h (by decide), fun h => absurd h (by decide), fun h => absurd h (by decide), fun h => absurd h (by decide), fun h => absurd h (by decide), fun h => absurd h (by decide), fun h => absurd h (by decide), fun h => absurd h (by decide), fun h => absurd h (by decide), by first | (focus (simp only [IC_size, intC_size, limA_size, RC_size, ratC_size]; done)) | exact rfl, F.drew⟩
    · rintro listed mm W ii hi hsz hoff ⟨s5, s6, s7, s8, s9, s10, s11, s12, c_b4, rfl, h0, h1, h2, h3, h4, h5, h6, h7, h8, hz0, HF⟩ hd
      have hc : ii = 0 ∨ ii = 1 ∨ ii = 2 ∨ ii = 3 ∨ ii = 4 ∨ ii = 5 ∨ ii = 6 ∨ ii = 7 ∨ ii = 8 := by
        have hi2 : ii < 9 := hi
        omega
      have hsz2 : listed.size = 9 := hsz
      clear hi hsz
      rcases hc with rfl | rfl | rfl | rfl | rfl | rfl | rfl | rfl | rfl
      · refine wpOp_want rfl rfl (fun K hK => ?_)
        simp only [putAll, List.set_cons_zero, List.set_cons_succ, List.getElem_toArray, List.getElem_cons_succ, List.getElem_cons_zero]
        refine ⟨?_⟩
        go_simp
        exact hK _ _ ⟨[(.bool true), s6, s7, s8, s9, s10, s11, s12], by simp only [putAll, List.set_cons_zero, List.set_cons_succ], (.bool true), s6, s7, s8, s9, s10, s11, s12, c_b4, rfl, fun _ => rfl, lk h1, lk h2, lk h3, lk h4, lk h5, lk h6, lk h7, lk h8, hz0, HF⟩
      · have d0 := h0 (hd 0 (by kernel_rfl))
        obtain rfl := d0
        refine wpOp_want rfl rfl (fun K hK => ?_)
        simp only [putAll, List.set_cons_zero, List.set_cons_succ, List.getElem_toArray, List.getElem_cons_succ, List.getElem_cons_zero]
        refine ⟨?_⟩
        go_simp
        exact hK _ _ ⟨[(.bool true), (.bool true), s7, s8, s9, s10, s11, s12], by simp only [putAll, List.set_cons_zero, List.set_cons_succ], (.bool true), (.bool true), s7, s8, s9, s10, s11, s12, c_b4, rfl, lk h0, fun _ => rfl, lk h2, lk h3, lk h4, lk h5, lk h6, lk h7, lk h8, hz0, HF⟩
      · have d1 := h1 (hd 1 (by kernel_rfl))
        obtain rfl := d1
        refine wpOp_want rfl rfl (fun K hK => ?_)
        simp only [putAll, List.set_cons_zero, List.set_cons_succ, List.getElem_toArray, List.getElem_cons_succ, List.getElem_cons_zero]
        with_reducible apply gL HF
        · exact rfl
        · (exact tL)
        · (first | (exact tR3))
        go_simp
        exact hK _ _ ⟨[s5, (.bool true), (.agg (limA 32 m)), s8, s9, s10, s11, s12], by simp only [putAll, List.set_cons_zero, List.set_cons_succ], s5, (.bool true), (.agg (limA 32 m)), s8, s9, s10, s11, s12, c_b4, rfl, lk h0, lk h1, fun _ => rfl, lk h3, lk h4, lk h5, lk h6, lk h7, lk h8, hz0, HF⟩
      · have d1 := h1 (hd 1 (by kernel_rfl))
        have d2 := h2 (hd 2 (by kernel_rfl))
        obtain rfl := d1
        obtain rfl := d2
        refine wpOp_want rfl rfl (fun K hK => ?_)
        simp only [putAll, List.set_cons_zero, List.set_cons_succ, List.getElem_toArray, List.getElem_cons_succ, List.getElem_cons_zero]
        refine ⟨?_⟩
        go_simp
        with_reducible refine fr_call HF (g1 _) ?_
        clear HF
        intro W HF
        (try dsimp only)
        exact hK _ _ ⟨[s5, (.bool true), (.agg (limA 32 m)), (.bool z), s9, s10, s11, s12], by simp only [putAll, List.set_cons_zero, List.set_cons_succ], s5, (.bool true), (.agg (limA 32 m)), (.bool z), s9, s10, s11, s12, c_b4, rfl, lk h0, lk h1, lk h2, fun _ => rfl, lk h4, lk h5, lk h6, lk h7, lk h8, hz0, HF⟩
      · have d1 := h1 (hd 1 (by kernel_rfl))
        have d3 := h3 (hd 3 (by kernel_rfl))
        obtain rfl := d1
        obtain rfl := d3
        refine wpOp_want rfl rfl (fun K hK => ?_)
        simp only [putAll, List.set_cons_zero, List.set_cons_succ, List.getElem_toArray, List.getElem_cons_succ, List.getElem_cons_zero]
        refine ⟨?_⟩
        go_simp
        exact hK _ _ ⟨[s5, (.bool true), s7, (.bool z), (.bool (!z)), s10, s11, s12], by simp only [putAll, List.set_cons_zero, List.set_cons_succ], s5, (.bool true), s7, (.bool z), (.bool (!z)), s10, s11, s12, c_b4, rfl, lk h0, lk h1, lk h2, lk h3, fun _ => rfl, lk h5, lk h6, lk h7, lk h8, hz0, HF⟩
      · have d1 := h1 (hd 1 (by kernel_rfl))
        have d4 := h4 (hd 4 (by kernel_rfl))
        obtain rfl := d1
        obtain rfl := d4
        refine wpOp_want rfl rfl (fun K hK => ?_)
        simp only [putAll, List.set_cons_zero, List.set_cons_succ, List.getElem_toArray, List.getElem_cons_succ, List.getElem_cons_zero]
        refine ⟨?_⟩
        go_simp
        exact hK _ _ ⟨[s5, (.bool true), s7, s8, (.bool (!z)), (.bool (!z)), s11, s12], by simp only [putAll, List.set_cons_zero, List.set_cons_succ], s5, (.bool true), s7, s8, (.bool (!z)), (.bool (!z)), s11, s12, c_b4, rfl, lk h0, lk h1, lk h2, lk h3, lk h4, fun _ => rfl, lk h6, lk h7, lk h8, hz0, HF⟩
      · refine wpOp_want rfl rfl (fun K hK => ?_)
        simp only [putAll, List.set_cons_zero, List.set_cons_succ, List.getElem_toArray, List.getElem_cons_succ, List.getElem_cons_zero]
        with_reducible apply gL HF
        · exact rfl
        · (exact tL)
        · (first | (exact tR3))
        go_simp
        exact hK _ _ ⟨[s5, s6, s7, s8, s9, s10, (.agg (limA 32 m)), s12], by simp only [putAll, List.set_cons_zero, List.set_cons_succ], s5, s6, s7, s8, s9, s10, (.agg (limA 32 m)), s12, c_b4, rfl, lk h0, lk h1, lk h2, lk h3, lk h4, lk h5, fun _ => rfl, lk h7, lk h8, hz0, HF⟩
      · have d5 := h5 (hd 5 (by kernel_rfl))
        have d6 := h6 (hd 6 (by kernel_rfl))
        obtain rfl := d5
        obtain rfl := d6
        refine wpOp_want rfl rfl (fun K hK => ?_)
        simp only [putAll, List.set_cons_zero, List.set_cons_succ, List.getElem_toArray, List.getElem_cons_succ, List.getElem_cons_zero]
        with_reducible apply gB_int
        · exact rfl
        · exact rfl
        go_simp
        exact hK _ _ ⟨[s5, s6, s7, s8, s9, (.bool (!z)), (.agg (limA 32 m)), (.agg (intC (!z) m))], by simp only [putAll, List.set_cons_zero, List.set_cons_succ], s5, s6, s7, s8, s9, (.bool (!z)), (.agg (limA 32 m)), (.agg (intC (!z) m)), c_b4, rfl, lk h0, lk h1, lk h2, lk h3, lk h4, lk h5, lk h6, fun _ => rfl, lk h8, hz0, HF⟩
      · have d7 := h7 (hd 7 (by kernel_rfl))
        obtain rfl := d7
        refine wpOp_want rfl rfl (fun K hK => ?_)
        simp only [putAll, List.set_cons_zero, List.set_cons_succ, List.getElem_toArray, List.getElem_cons_succ, List.getElem_cons_zero]
        with_reducible apply gS HF
        · exact rfl
        · exact rfl
        · (exact tL)
        · (first | (exact tR3))
        · first | exact hz0 | first | (focus (simp only [IC_size, intC_size, limA_size, RC_size, ratC_size]; done)) | exact rfl
        clear HF
        intro W HF
        simp only [List.cons_append, List.nil_append] at HF
        go_simp
        exact hK _ _ ⟨[s5, s6, s7, s8, s9, s10, s11, (.agg (intC (!z) m))], by simp only [putAll, List.set_cons_zero, List.set_cons_succ], s5, s6, s7, s8, s9, s10, s11, (.agg (intC (!z) m)), (intC (!z) m), rfl, lk h0, lk h1, lk h2, lk h3, lk h4, lk h5, lk h6, lk h7, fun _ => rfl, rfl, HF⟩
    rintro listed mm W ⟨s5, s6, s7, s8, s9, s10, s11, s12, c_b4, rfl, h0, h1, h2, h3, h4, h5, h6, h7, h8, hz0, HF⟩ hall
    obtain rfl := h0 (hall 0 (by decide))
    obtain rfl := h1 (hall 1 (by decide))
    obtain rfl := h2 (hall 2 (by decide))
    obtain rfl := h3 (hall 3 (by decide))
    obtain rfl := h4 (hall 4 (by decide))
    obtain rfl := h5 (hall 5 (by decide))
    obtain rfl := h6 (hall 6 (by decide))
    obtain rfl := h7 (hall 7 (by decide))
    rw [h8 (hall 8 (by decide))] at HF
    clear hall h0 h1 h2 h3 h4 h5 h6 h7 h8 hz0 F
    have F := HF
    clear HF
    simp only [putAll, List.set_cons_zero, List.set_cons_succ]
    go_wp2_with (first | go_skip | ((with_reducible apply fL F); exact rfl; exact rfl; (exact tL); (exact tR3)) | ((with_reducible apply fA_int F); exact rfl) | ((with_reducible apply fX_arr F); exact rfl; exact rfl) | ((with_reducible apply fS F); exact rfl; exact rfl; exact rfl; (exact tL); (exact tR3); (exact tS2); clear F; intro W F; simp only [List.cons_append, List.nil_append] at F) | ((with_reducible apply fB_int); exact rfl; exact rfl; exact rfl))
    exact bodyPost_ret (res_c rfl rfl (Fr.get F tL) (rowInt _ _)) rfl ⟨rfl, F.below⟩
theorem rcanonZ {n : Bool} {m : Nat} {x : Int} (hm : m < bp 32) (hx : m = x.natAbs) (h1 : x < 0 → n = true) (h2 : 0 < x → n = false) (w : World) : Calls Tryz.prog 129 #[.bool n, .agg (limA 32 m)] w (RetB (.agg (IC x)) w) := by
  have h := rcanon_any (neg := n) hm rfl w
  have e := canB_eq (n := n) hx h1 h2
  unfold canB at e
  rw [e] at h
  subst hx
  exact h
set_option maxRecDepth 100000 in
theorem rsum_any {a b : Nat} (la : a < bp 32) (lb : b < bp 32) {c : Nat} {f : Bool} (hc : (a + b) % bp 32 = c) (hf : decide (a + b < bp 32) = f) (w : World) : Calls Tryz.prog 128 #[.agg (limA 32 a), .agg (limA 32 b)] w (RetB (.tuple #[.agg (limA 32 c), .bool f]) w) := by
  have F := Fr.start w
  have HC := Lib.hid hc
  have HF := Lib.hid hf
  have HL := Lib.hid (And.intro la lb)
  clear la lb hc hf
  go_enter Tryz.func128, Tryz.ntmps128
  go_wp2_with (first | go_skip | ((with_reducible apply fL F); exact rfl; exact rfl; (exact tL); (exact tR3)) | ((with_reducible apply fA_arr F); exact rfl) | ((with_reducible apply fX_arr F); exact rfl; exact rfl) | ((with_reducible apply fS F); exact rfl; exact rfl; exact rfl; (exact tL); (exact tR3); (exact tS2); clear F; intro W F; simp only [List.cons_append, List.nil_append] at F))
  (clear F; intro b2 W F; try simp only [Act.put, List.setIfInBounds_toArray, List.set_cons_zero, List.set_cons_succ])
  go_wp2_with (first | go_skip | ((with_reducible apply fL F); exact rfl; exact rfl; (exact tL); (exact tR3)) | ((with_reducible apply fA_arr F); exact rfl) | ((with_reducible apply fX_arr F); exact rfl; exact rfl) | ((with_reducible apply fS F); exact rfl; exact rfl; exact rfl; (exact tL); (exact tR3); (exact tS2); clear F; intro W F; simp only [List.cons_append, List.nil_append] at F))
  (clear F; intro b3 W F; try simp only [Act.put, List.setIfInBounds_toArray, List.set_cons_zero, List.set_cons_succ])
  go_wp2_with (first | go_skip | ((with_reducible apply fL F); exact rfl; exact rfl; (exact tL); (exact tR3)) | ((with_reducible apply fA_arr F); exact rfl) | ((with_reducible apply fX_arr F); exact rfl; exact rfl) | ((with_reducible apply fS F); exact rfl; exact rfl; exact rfl; (exact tL); (exact tR3); (exact tS2); clear F; intro W F; simp only [List.cons_append, List.nil_append] at F))
  (clear F; intro b4 W F; try simp only [Act.put, List.setIfInBounds_toArray, List.set_cons_zero, List.set_cons_succ])
  go_wp2_with (first | go_skip | ((with_reducible apply fL F); exact rfl; exact rfl; (exact tL); (exact tR3)) | ((with_reducible apply fA_arr F); exact rfl) | ((with_reducible apply fX_arr F); exact rfl; exact rfl) | ((with_reducible apply fS F); exact rfl; exact rfl; exact rfl; (exact tL); (exact tR3); (exact tS2); clear F; intro W F; simp only [List.cons_append, List.nil_append] at F))
  (clear F; intro b6 W F; try simp only [Act.put, List.setIfInBounds_toArray, List.set_cons_zero, List.set_cons_succ])
  go_wp2_with (first | go_skip | ((with_reducible apply fL F); exact rfl; exact rfl; (exact tL); (exact tR3)) | ((with_reducible apply fA_arr F); exact rfl) | ((with_reducible apply fX_arr F); exact rfl; exact rfl) | ((with_reducible apply fS F); exact rfl; exact rfl; exact rfl; (exact tL); (exact tR3); (exact tS2); clear F; intro W F; simp only [List.cons_append, List.nil_append] at F))
  go_loopw [7, 8] (fun cv iv wr => ∃ i q s : Nat, i ≤ 32 ∧ cv = .int .u64 q ∧ iv = .int .i64 i ∧ s < bp i ∧ s + q * bp i = a % bp i + b % bp i ∧ Fr w wr [(b6, limA 32 s, 27), (b4, limA 32 0, 27), (b3, limA 32 b, 27), (b2, limA 32 a, 27)]) (fun _ iv _ => 32 - (intOf iv).toNat)
  case atStart => exact ⟨0, 0, 0, by omega, rfl, rfl, bp_pos 0, by rw [bp_zero]; omega, F⟩
  case round =>
    clear F
    obtain ⟨i, q, s, hi, rfl, rfl, hs, hq, F⟩ := hrel
    have HS := Lib.hid (And.intro hs hq)
    have hq1 := carry_le hq
    clear hs hq
    by_cases hlt : i < 32
    · obtain ⟨x, hx⟩ : ∃ x, lim a i = x := ⟨_, rfl⟩
      obtain ⟨y, hy⟩ : ∃ y, lim b i = y := ⟨_, rfl⟩
      have hx1 := lim_lt a i
      have hy1 := lim_lt b i
      obtain ⟨p1, p2⟩ := plus_step HS.out.1 HS.out.2
      have hd := Nat.mod_lt (lim a i + lim b i + q) (show 0 < 4294967296 by omega)
      have c1 := (F.get tL : BlkAt wr b2 _ _).cell (limA_at (m := a) hlt)
      have c2 := (F.get tL : BlkAt wr b3 _ _).cell (limA_at (m := b) hlt)
      rw [hx] at c1 hx1
      rw [hy] at c2 hy1
      rw [hx, hy] at p1 p2 hd
      obtain ⟨v, hv⟩ : ∃ v, x + y + q = v := ⟨_, rfl⟩
      rw [hv] at p1 p2 hd
      have hv1 : v < 18446744073709551616 := by omega
      have m1 : IntKind.u64.wrap ((x : Int) + (y : Int)) = ((x : Int) + (y : Int)) := by rw [show (x : Int) + (y : Int) = ((x + y : Nat) : Int) by omega]; exact wrap64 (by omega)
      have m2 : (x : Int) + (y : Int) + (q : Int) = (v : Int) := by omega
      have m3 : IntKind.u64.wrap (v : Int) = (v : Int) := wrap64 hv1
      have i0 : (0 : Int) ≤ (i : Int) := by omega
      have i1 : (i : Int) < 32 := by omega
      have HP := Lib.hid (And.intro p1 (And.intro p2 hd))
      clear p1 p2 hd hx hy hv
      go_wp2_with fail
      go_quiet (fail)
      replace F := F.drewN nq
      generalize wr.drewN nq = wq at *
      have cst := (F.get Lies.here).cell (limA_at (m := s) hlt)
      have fst := BlkAt.fz (F.get Lies.here) i
      obtain ⟨d, hdd⟩ : ∃ d, v % 4294967296 = d := ⟨_, rfl⟩
      obtain ⟨q', hqq⟩ : ∃ q', v / 4294967296 = q' := ⟨_, rfl⟩
      rw [hdd, hqq] at HP
      have m4 : (v : Int) % 4294967296 = (d : Int) := by omega
      have m5 : (v : Int) / 4294967296 = (q' : Int) := by omega
      have HN := Lib.hid ((F.cellA (A := []) i (.int .u32 d)).is (limA_set HP.out.2.2))
      clear hdd hqq F c1 c2 m1 m2 m3
      go_wp2_with fail
      go_roundw
      case rel => exact ⟨i + 1, q', setM s i d, by omega, rfl, by go_num, HP.out.1, HP.out.2.1, HN.out⟩
      case measure => simp [intOf]; omega
    · obtain rfl : i = 32 := by omega
      rw [Nat.mod_eq_of_lt HL.out.1, Nat.mod_eq_of_lt HL.out.2] at HS
      have hsv : s = c := by
        rw [← HC.out, ← HS.out.2, Nat.add_mul_mod_self_right, Nat.mod_eq_of_lt HS.out.1]
      have hfv : decide (q = 0) = f := by
        rw [← HF.out, ← HS.out.2]
        have h1 := HS.out.1
        have h2 := bp_pos 32
        congr 1
        rw [eq_iff_iff]
        constructor
        · rintro rfl
          omega
        · intro h
          rcases Nat.lt_or_ge 0 q with h3 | h3
          · have := Nat.mul_le_mul_right (bp 32) h3
            omega
          · omega
      subst hsv
      have g1 : ((q : Int) == 0) = f := by
        rw [← hfv]
        by_cases h : q = 0
        · simp [h]
        · rw [decide_eq_false h, beq_eq_false_iff_ne]
          omega
      clear hfv HS HC HF HL hq1
      go_wp2_with (first | go_skip | ((with_reducible apply fL F); exact rfl; exact rfl; (exact tL); (exact tR3)) | ((with_reducible apply fA_arr F); exact rfl) | ((with_reducible apply fX_arr F); exact rfl; exact rfl) | ((with_reducible apply fS F); exact rfl; exact rfl; exact rfl; (exact tL); (exact tR3); (exact tS2); clear F; intro W F; simp only [List.cons_append, List.nil_append] at F))
      exact bodyPost_ret (res_cs rfl rfl rfl (Fr.get F tL) (rowArr _)) rfl ⟨rfl, F.below⟩
end
section
open Go.RowKit
set_option maxHeartbeats 4000000
set_option maxRecDepth 100000 in
theorem rdiff_any {a b : Nat} (la : a < bp 32) (lb : b < bp 32) {c : Nat} (hc : (a + bp 32 - b) % bp 32 = c) (w : World) : Calls Tryz.prog 127 #[.agg (limA 32 a), .agg (limA 32 b)] w (RetB (.agg (limA 32 c)) w) := by
  have F := Fr.start w
  have HC := Lib.hid hc
  have HL := Lib.hid (And.intro la lb)
  clear la lb hc
  go_enter Tryz.func127, Tryz.ntmps127
  go_wp2_with (first | go_skip | ((with_reducible apply fL F); exact rfl; exact rfl; (exact tL); (exact tR3)) | ((with_reducible apply fA_arr F); exact rfl) | ((with_reducible apply fX_arr F); exact rfl; exact rfl) | ((with_reducible apply fS F); exact rfl; exact rfl; exact rfl; (exact tL); (exact tR3); (exact tS2); clear F; intro W F; simp only [List.cons_append, List.nil_append] at F))
  (clear F; intro b2 W F; try simp only [Act.put, List.setIfInBounds_toArray, List.set_cons_zero, List.set_cons_succ])
  go_wp2_with (first | go_skip | ((with_reducible apply fL F); exact rfl; exact rfl; (exact tL); (exact tR3)) | ((with_reducible apply fA_arr F); exact rfl) | ((with_reducible apply fX_arr F); exact rfl; exact rfl) | ((with_reducible apply fS F); exact rfl; exact rfl; exact rfl; (exact tL); (exact tR3); (exact tS2); clear F; intro W F; simp only [List.cons_append, List.nil_append] at F))
  (clear F; intro b3 W F; try simp only [Act.put, List.setIfInBounds_toArray, List.set_cons_zero, List.set_cons_succ])
  go_wp2_with (first | go_skip | ((with_reducible apply fL F); exact rfl; exact rfl; (exact tL); (exact tR3)) | ((with_reducible apply fA_arr F); exact rfl) | ((with_reducible apply fX_arr F); exact rfl; exact rfl) | ((with_reducible apply fS F); exact rfl; exact rfl; exact rfl; (exact tL); (exact tR3); (exact tS2); clear F; intro W F; simp only [List.cons_append, List.nil_append] at F))
  (clear F; intro b4 W F; try simp only [Act.put, List.setIfInBounds_toArray, List.set_cons_zero, List.set_cons_succ])
  go_wp2_with (first | go_skip | ((with_reducible apply fL F); exact rfl; exact rfl; (exact tL); (exact tR3)) | ((with_reducible apply fA_arr F); exact rfl) | ((with_reducible apply fX_arr F); exact rfl; exact rfl) | ((with_reducible apply fS F); exact rfl; exact rfl; exact rfl; (exact tL); (exact tR3); (exact tS2); clear F; intro W F; simp only [List.cons_append, List.nil_append] at F))
  (clear F; intro b5 W F; try simp only [Act.put, List.setIfInBounds_toArray, List.set_cons_zero, List.set_cons_succ])
  go_wp2_with (first | go_skip | ((with_reducible apply fL F); exact rfl; exact rfl; (exact tL); (exact tR3)) | ((with_reducible apply fA_arr F); exact rfl) | ((with_reducible apply fX_arr F); exact rfl; exact rfl) | ((with_reducible apply fS F); exact rfl; exact rfl; exact rfl; (exact tL); (exact tR3); (exact tS2); clear F; intro W F; simp only [List.cons_append, List.nil_append] at F))
  go_loopw [6, 7] (fun cv iv wr => ∃ i q s : Nat, i ≤ 32 ∧ cv = .int .u64 q ∧ iv = .int .i64 i ∧ s < bp i ∧ s + b % bp i = a % bp i + q * bp i ∧ Fr w wr [(b5, limA 32 s, 27), (b4, limA 32 0, 27), (b3, limA 32 b, 27), (b2, limA 32 a, 27)]) (fun _ iv _ => 32 - (intOf iv).toNat)
  case atStart => exact ⟨0, 0, 0, by omega, rfl, rfl, bp_pos 0, by rw [bp_zero]; omega, F⟩
  case round =>
    clear F
    obtain ⟨i, q, s, hi, rfl, rfl, hs, hq, F⟩ := hrel
    have HS := Lib.hid (And.intro hs hq)
    have hq1 := borrow_le hs hq
    clear hs hq
    by_cases hlt : i < 32
    · obtain ⟨x, hx⟩ : ∃ x, lim a i = x := ⟨_, rfl⟩
      obtain ⟨y, hy⟩ : ∃ y, lim b i = y := ⟨_, rfl⟩
      have hx1 := lim_lt a i
      have hy1 := lim_lt b i
      obtain ⟨d, q', hd, hq', hdd⟩ := sub_ex (lim a i) (lim b i) q hx1 hy1 hq1
      obtain ⟨p1, p2⟩ := minus_step HS.out.1 HS.out.2 hd hdd
      have c1 := (F.get tL : BlkAt wr b2 _ _).cell (limA_at (m := a) hlt)
      have c2 := (F.get tL : BlkAt wr b3 _ _).cell (limA_at (m := b) hlt)
      rw [hx] at c1 hx1
      rw [hy] at c2 hy1
      rw [hx, hy] at hdd
      obtain ⟨u, hu⟩ : ∃ u : Nat, IntKind.u64.wrap ((x : Int) - (y : Int)) = (u : Int) := ⟨(IntKind.u64.wrap ((x : Int) - (y : Int))).toNat, by rw [IntKind.wrap_u64]; omega⟩
      obtain ⟨v, hv⟩ : ∃ v : Nat, IntKind.u64.wrap ((u : Int) - (q : Int)) = (v : Int) := ⟨(IntKind.u64.wrap ((u : Int) - (q : Int))).toNat, by rw [IntKind.wrap_u64]; omega⟩
      have hvv : v % 4294967296 = d ∧ v / 9223372036854775808 = q' := by
        have h1 := hu
        have h2 := hv
        rw [IntKind.wrap_u64] at h1 h2
        omega
      have m4 : (v : Int) % 4294967296 = (d : Int) := by omega
      have m5 : (v : Int) / 9223372036854775808 = (q' : Int) := by omega
      have i0 : (0 : Int) ≤ (i : Int) := by omega
      have i1 : (i : Int) < 32 := by omega
      have HP := Lib.hid (And.intro p1 (And.intro p2 hd))
      clear p1 p2 hd hx hy hdd hvv hq'
      go_wp2_with fail
      go_quiet (fail)
      replace F := F.drewN nq
      generalize wr.drewN nq = wq at *
      have cst := (F.get Lies.here).cell (limA_at (m := s) hlt)
      have fst := BlkAt.fz (F.get Lies.here) i
      have HN := Lib.hid ((F.cellA (A := []) i (.int .u32 d)).is (limA_set HP.out.2.2))
      clear F c1 c2 hu hv
      go_wp2_with fail
      go_roundw
      case rel => exact ⟨i + 1, q', setM s i d, by omega, rfl, by go_num, HP.out.1, HP.out.2.1, HN.out⟩
      case measure => simp [intOf]; omega
    · obtain rfl : i = 32 := by omega
      rw [Nat.mod_eq_of_lt HL.out.1, Nat.mod_eq_of_lt HL.out.2] at HS
      have hsv : s = c := by
        rw [← HC.out]
        have h1 := HS.out.1
        have h2 := HS.out.2
        have h3 := HL.out.1
        have h4 := HL.out.2
        have h5 : q = 0 ∨ q = 1 := by omega
        rcases h5 with rfl | rfl
        · rw [show a + bp 32 - b = s + bp 32 by omega, Nat.add_mod_right, Nat.mod_eq_of_lt h1]
        · rw [show a + bp 32 - b = s by omega, Nat.mod_eq_of_lt h1]
      subst hsv
      clear HS HC HL hq1
      go_wp2_with (first | go_skip | ((with_reducible apply fL F); exact rfl; exact rfl; (exact tL); (exact tR3)) | ((with_reducible apply fA_arr F); exact rfl) | ((with_reducible apply fX_arr F); exact rfl; exact rfl) | ((with_reducible apply fS F); exact rfl; exact rfl; exact rfl; (exact tL); (exact tR3); (exact tS2); clear F; intro W F; simp only [List.cons_append, List.nil_append] at F))
      exact bodyPost_ret (res_c rfl rfl (Fr.get F tL) (rowArr _)) rfl ⟨rfl, F.below⟩
theorem rdiff_le {a b : Nat} (la : a < bp 32) (lb : b < bp 32) (h : b ≤ a) (w : World) : Calls Tryz.prog 127 #[.agg (limA 32 a), .agg (limA 32 b)] w (RetB (.agg (limA 32 (a - b))) w) :=
  rdiff_any la lb (by rw [show a + bp 32 - b = (a - b) + bp 32 by omega, Nat.add_mod_right, Nat.mod_eq_of_lt (by omega)]) w
end
section
open Go.RowKit
set_option maxHeartbeats 4000000
theorem sgN_0 {neg : Bool} {m : Nat} {v : Int} (hv : sgN neg m = v) : (m = 0 → v = 0) ∧ (m ≠ 0 → v = if neg = true then -1 else 1) := by
  subst hv
  unfold sgN
  exact ⟨fun h => by rw [if_pos h], fun h => by rw [if_neg h]⟩
set_option maxRecDepth 100000 in
theorem rsign_any {neg : Bool} {m : Nat} (lm : m < bp 32) {v : Int} (hv : sgN neg m = v) (w : World) : Calls Tryz.prog 77 #[.agg (intC neg m)] w (RetB (.int .i64 v) w) := by
  have F := Fr.start w
  obtain ⟨z, hz⟩ : ∃ z, decide (m = 0) = z := ⟨_, rfl⟩
  have g1 := fun w => rzero_any lm hz w
  obtain ⟨s1, s2⟩ := sgN_0 hv
  clear lm hv
  go_enter Tryz.func77, Tryz.ntmps77
  go_wp2_with (first | go_skip | ((with_reducible apply fL F); exact rfl; exact rfl; (exact tL); (exact tR3)) | ((with_reducible apply fLm F); exact rfl; exact rfl; (exact tL); (exact tM3); (exact tR3)) | ((with_reducible apply fX_int F); exact rfl; exact rfl))
  (clear F; intro b1 W F; try simp only [Act.put, List.setIfInBounds_toArray, List.set_cons_zero, List.set_cons_succ])
  have c0 := (F.get Lies.here).cell (intC_neg neg m)
  cases z
  · have hm := of_decide_eq_false hz
    obtain rfl := s2 hm
    clear s1 s2 hm hz
    have c0 : ∀ W, Fr w W [(b1, intC neg m, 29)] → W.cell? ⟨b1, 0, none⟩ = some (.bool neg) := fun W h => (h.get Lies.here).cell (intC_neg neg m)
    go_upto_region 3 with (first | go_skip | ((go_at_call 125); (with_reducible refine fr_call F (g1 _) ?_); (clear F; intro W F); (try dsimp only)) | ((with_reducible apply fL F); exact rfl; exact rfl; (exact tL); (exact tR3)) | ((with_reducible apply fLm F); exact rfl; exact rfl; (exact tL); (exact tM3); (exact tR3)) | ((with_reducible apply fX_int F); exact rfl; exact rfl))
    have c1 := c0 _ F
    clear c0
    cases neg
    all_goals
      go_wp2_with (first | go_skip | ((with_reducible apply fL F); exact rfl; exact rfl; (exact tL); (exact tR3)) | ((with_reducible apply fLm F); exact rfl; exact rfl; (exact tL); (exact tM3); (exact tR3)) | ((with_reducible apply fX_int F); exact rfl; exact rfl))
      go_ret
      exact ⟨rfl, F.below⟩
  · have hm := of_decide_eq_true hz
    obtain rfl := s1 hm
    clear s1 s2 hm hz
    go_wp2_with (first | go_skip | ((go_at_call 125); (with_reducible refine fr_call F (g1 _) ?_); (clear F; intro W F); (try dsimp only)) | ((with_reducible apply fL F); exact rfl; exact rfl; (exact tL); (exact tR3)) | ((with_reducible apply fLm F); exact rfl; exact rfl; (exact tL); (exact tM3); (exact tR3)) | ((with_reducible apply fX_int F); exact rfl; exact rfl))
    go_ret
    exact ⟨rfl, F.below⟩
theorem rsignZ {x : Int} (hx : x.natAbs < bp 32) (w : World) : Calls Tryz.prog 77 #[.agg (IC x)] w (RetB (.int .i64 x.sign) w) := rsign_any hx (sgN_z x) w
set_option maxRecDepth 100000 in
theorem rneg_any {x : Int} (hx : x.natAbs < bp 32) (w : World) : Calls Tryz.prog 99 #[.agg (IC x)] w (RetB (.agg (IC (-x))) w) := by
  have F := Fr.start w
  have g1 := fun w => rcanonZ (n := !decide (x < 0)) (m := x.natAbs) (x := -x) hx (by omega) (fun h => by rw [decide_eq_false (by omega)]; rfl) (fun h => by rw [decide_eq_true (by omega)]; rfl) w
  clear hx
  go_enter Tryz.func99, Tryz.ntmps99
  go_wp2_with (first | go_skip | ((with_reducible apply fL F); exact rfl; exact rfl; (exact tL); (exact tR3)) | ((with_reducible apply fLm F); exact rfl; exact rfl; (exact tL); (exact tM3); (exact tR3)) | ((with_reducible apply fA_int F); exact rfl) | ((with_reducible apply fX_int F); exact rfl; exact rfl) | ((with_reducible apply fS F); exact rfl; exact rfl; exact rfl; (exact tL); (exact tR3); (exact tS2); clear F; intro W F; simp only [List.cons_append, List.nil_append] at F))
  (clear F; intro b1 W F; try simp only [Act.put, List.setIfInBounds_toArray, List.set_cons_zero, List.set_cons_succ])
  go_wp2_with (first | go_skip | ((with_reducible apply fL F); exact rfl; exact rfl; (exact tL); (exact tR3)) | ((with_reducible apply fLm F); exact rfl; exact rfl; (exact tL); (exact tM3); (exact tR3)) | ((with_reducible apply fA_int F); exact rfl) | ((with_reducible apply fX_int F); exact rfl; exact rfl) | ((with_reducible apply fS F); exact rfl; exact rfl; exact rfl; (exact tL); (exact tR3); (exact tS2); clear F; intro W F; simp only [List.cons_append, List.nil_append] at F))
  (clear F; intro b2 W F; try simp only [Act.put, List.setIfInBounds_toArray, List.set_cons_zero, List.set_cons_succ])
  have c0 := (F.get tL : BlkAt W b1 _ _).cell (intC_neg (decide (x < 0)) x.natAbs)
  obtain ⟨s, hs⟩ : ∃ s, decide (x < 0) = s := ⟨_, rfl⟩
  rw [hs] at g1 c0
  clear hs
  go_wp2_with (first | go_skip | ((go_at_call 129); (with_reducible refine fr_call F (g1 _) ?_); (clear F; intro W F); (try dsimp only)) | ((with_reducible apply fL F); exact rfl; exact rfl; (exact tL); (exact tR3)) | ((with_reducible apply fLm F); exact rfl; exact rfl; (exact tL); (exact tM3); (exact tR3)) | ((with_reducible apply fA_int F); exact rfl) | ((with_reducible apply fX_int F); exact rfl; exact rfl) | ((with_reducible apply fS F); exact rfl; exact rfl; exact rfl; (exact tL); (exact tR3); (exact tS2); clear F; intro W F; simp only [List.cons_append, List.nil_append] at F))
  exact bodyPost_ret (res_c rfl rfl (Fr.get F tL) (rowIC _)) rfl ⟨rfl, F.below⟩
end
section
open Go.RowKit
set_option maxHeartbeats 4000000
theorem bl_half {v : Nat} (h : v ≠ 0) : bl (v / 2) + 1 = bl v := by
  unfold bl
  rw [if_neg h]
  by_cases h1 : v / 2 = 0
  · rw [if_pos h1]
    have : v = 1 := by omega
    subst this
    rfl
  · rw [if_neg h1, Nat.log2_def v, if_pos (by omega)]
set_option maxRecDepth 100000 in
theorem rbits_any {neg : Bool} {m : Nat} (lm : m < bp 32) (w : World) : Calls Tryz.prog 97 #[.agg (intC neg m)] w (RetB (.int .i64 (bl m)) w) := by
  have F := Fr.start w
  obtain ⟨n, hn, hu⟩ := used_ex m lm
  have g1 := fun w => rlimbs_any lm hu w
  have HZ := Lib.hid (used_zero hu)
  have HU := Lib.hid hu
  have HB := Lib.hid (bl_1024 lm)
  clear lm hu
  go_enter Tryz.func97, Tryz.ntmps97
  go_wp2_with (first | go_skip | ((with_reducible apply fL F); exact rfl; exact rfl; (exact tL); (exact tR3)) | ((with_reducible apply fLm F); exact rfl; exact rfl; (exact tL); (exact tM3); (exact tR3)) | ((with_reducible apply fX_int F); exact rfl; exact rfl))
  (clear F; intro b1 W F; try simp only [Act.put, List.setIfInBounds_toArray, List.set_cons_zero, List.set_cons_succ])
  by_cases h0 : n = 0
  · have hb : bl m = 0 := by rw [HZ.out.1 h0]; rfl
    subst h0
    have HBL := Lib.hid hb
    clear HZ HU HB hb
    go_wp2_with (first | go_skip | ((go_at_call 130); (with_reducible refine fr_call F (g1 _) ?_); (clear F; intro W F); (try dsimp only)) | ((with_reducible apply fL F); exact rfl; exact rfl; (exact tL); (exact tR3)) | ((with_reducible apply fLm F); exact rfl; exact rfl; (exact tL); (exact tM3); (exact tR3)) | ((with_reducible apply fX_int F); exact rfl; exact rfl))
    go_ret
    exact ⟨ret_int (by rw [HBL.out]; rfl), F.below⟩
  have hbl := bl_lim HU.out h0
  obtain ⟨k, hk⟩ : ∃ k, n - 1 = k := ⟨_, rfl⟩
  rw [hk] at hbl
  have hk32 : k < 32 := by omega
  have e1 : (n : Int) - 1 = (k : Int) := by omega
  have e0 : ((n : Int) == 0) = false := by rw [beq_eq_false_iff_ne]; omega
  have wk : RowKit.wrap64 (k : Int) = (k : Int) := by rw [RowKit.wrap64]; omega
  have c1 : ∀ W, Fr w W [(b1, intC neg m, 29)] → W.cell? ⟨b1, 1 + k, none⟩ = some (.int .u32 (lim m k)) := fun W h => (h.get Lies.here).cell (by
    unfold intC
    rw [Array.getElem?_append_right (by simp)]
    simpa using limA_at (m := m) hk32)
  have hx1 := lim_lt m k
  obtain ⟨x, hx⟩ : ∃ x, lim m k = x := ⟨_, rfl⟩
  rw [hx] at c1 hbl hx1
  have HL := Lib.hid hbl
  have k0 : (0 : Int) ≤ (k : Int) := by omega
  have k1 : (k : Int) < 32 := by omega
  have k32 : (32 : Int) * (k : Int) = ((32 * k : Nat) : Int) := by omega
  obtain ⟨K, hK⟩ : ∃ K, 32 * k = K := ⟨_, rfl⟩
  rw [hK] at k32 HL
  have wK : RowKit.wrap64 (K : Int) = (K : Int) := by rw [RowKit.wrap64]; omega
  clear hbl hx h0 HZ HU hk hK
  go_upto_region 5 with (first | go_skip | ((go_at_call 130); (with_reducible refine fr_call F (g1 _) ?_); (clear F; intro W F); (try dsimp only)) | ((with_reducible apply fL F); exact rfl; exact rfl; (exact tL); (exact tR3)) | ((with_reducible apply fLm F); exact rfl; exact rfl; (exact tL); (exact tM3); (exact tR3)) | ((with_reducible apply fX_int F); exact rfl; exact rfl))
  have c2 := c1 _ F
  clear c1
  go_wp2_with (first | go_skip | ((with_reducible apply fL F); exact rfl; exact rfl; (exact tL); (exact tR3)) | ((with_reducible apply fLm F); exact rfl; exact rfl; (exact tL); (exact tM3); (exact tR3)) | ((with_reducible apply fX_int F); exact rfl; exact rfl))
  go_loopw [4, 5] (fun kv xv wr => ∃ q v : Nat, v < 4294967296 ∧ kv = .int .i64 q ∧ xv = .int .u32 v ∧ q + bl v = bl m ∧ Fr w wr [(b1, intC neg m, 29)]) (fun _ xv _ => (intOf xv).toNat)
  case atStart => exact ⟨K, x, hx1, by first | rfl | exact congrArg (Value.int .i64) wK, rfl, HL.out.symm, F⟩
  case round =>
    clear F
    obtain ⟨q, v, hv, rfl, rfl, hq, F⟩ := hrel
    have HQ := Lib.hid hq
    have hq2 : q ≤ 1024 := by have := HB.out; omega
    clear hq HL
    by_cases h0 : v = 0
    · have e : q = bl m := by rw [← HQ.out, h0]; rfl
      subst h0
      have HE := Lib.hid e
      clear e
      go_wp2_with fail
      go_ret
      exact ⟨ret_int (by rw [HE.out]), F.below⟩
    · have t1 : 0 < v := by omega
      have hh := bl_half h0
      have HN := Lib.hid (show q + 1 + bl (v / 2) = bl m by rw [← HQ.out, ← hh]; omega)
      have m1 : (v : Int) / 2 = ((v / 2 : Nat) : Int) := by omega
      have HV := Lib.hid (show v / 2 < v ∧ v / 2 < 4294967296 by omega)
      have wq : RowKit.wrap64 ((q : Int) + 1) = (q : Int) + 1 := by rw [RowKit.wrap64]; omega
      obtain ⟨u, hu⟩ : ∃ u, v / 2 = u := ⟨_, rfl⟩
      rw [hu] at m1 HN HV
      clear hh h0 hu
      go_wp2_with fail
      go_roundw
      case rel => exact ⟨q + 1, u, HV.out.2, by go_num, by go_num, HN.out, F⟩
      case measure => have := HV.out.1; simp [intOf]; omega
theorem cmpZ_signs {x y : Int} : cmpZ x y = if x.sign < y.sign then -1 else if y.sign < x.sign then 1 else x.sign * cmpN x.natAbs y.natAbs := by
  unfold cmpZ cmpN
  rcases Int.lt_trichotomy x 0 with h | h | h <;> rcases Int.lt_trichotomy y 0 with k | k | k
  all_goals first | rw [Int.sign_eq_neg_one_of_neg h] | rw [Int.sign_eq_one_of_pos h] | rw [h, Int.sign_zero]
  all_goals first | rw [Int.sign_eq_neg_one_of_neg k] | rw [Int.sign_eq_one_of_pos k] | rw [k, Int.sign_zero]
  all_goals (repeat' split) <;> omega
set_option maxRecDepth 100000 in
theorem rcmp_any {x y : Int} (hx : x.natAbs < bp 32) (hy : y.natAbs < bp 32) (w : World) : Calls Tryz.prog 49 #[.agg (IC x), .agg (IC y)] w (RetB (.int .i64 (cmpZ x y)) w) := by
  have F := Fr.start w
  have g1 := fun w => rsignZ hx w
  have g2 := fun w => rsignZ hy w
  have g3 := fun w => rcompare_any hx hy w
  have hc := cmpZ_signs (x := x) (y := y)
  have hcb : -1 ≤ cmpN x.natAbs y.natAbs ∧ cmpN x.natAbs y.natAbs ≤ 1 := by unfold cmpN; (repeat' split) <;> omega
  have hsb : x.sign = -1 ∨ x.sign = 0 ∨ x.sign = 1 := by
    rcases Int.lt_trichotomy x 0 with h | h | h
    · exact .inl (Int.sign_eq_neg_one_of_neg h)
    · exact .inr (.inl (by rw [h]; rfl))
    · exact .inr (.inr (Int.sign_eq_one_of_pos h))
  obtain ⟨r, hr⟩ : ∃ r, cmpZ x y = r := ⟨_, rfl⟩
  obtain ⟨s, hs⟩ : ∃ s, x.sign = s := ⟨_, rfl⟩
  obtain ⟨t, ht⟩ : ∃ t, y.sign = t := ⟨_, rfl⟩
  obtain ⟨c, hcc⟩ : ∃ c, cmpN x.natAbs y.natAbs = c := ⟨_, rfl⟩
  rw [hr, hs, ht, hcc] at hc
  rw [hr]
  rw [hs] at g1 hsb
  rw [ht] at g2
  rw [hcc] at g3 hcb
  obtain ⟨p, hp⟩ : ∃ p, s * c = p := ⟨_, rfl⟩
  have hpb : -1 ≤ p ∧ p ≤ 1 := by rw [← hp]; rcases hsb with h | h | h <;> rw [h] <;> omega
  have wp : RowKit.wrap64 p = p := by rw [RowKit.wrap64]; omega
  rw [hp] at hc
  have HC := Lib.hid hc
  clear hx hy hc hcb hsb hr hs ht hcc hpb
  go_enter Tryz.func49, Tryz.ntmps49
  go_wp2_with (first | go_skip | ((with_reducible apply fL F); exact rfl; exact rfl; (exact tL); (exact tR3)) | ((with_reducible apply fLm F); exact rfl; exact rfl; (exact tL); (exact tM3); (exact tR3)) | ((with_reducible apply fX_int F); exact rfl; exact rfl))
  (clear F; intro b2 W F; try simp only [Act.put, List.setIfInBounds_toArray, List.set_cons_zero, List.set_cons_succ])
  go_wp2_with (first | go_skip | ((with_reducible apply fL F); exact rfl; exact rfl; (exact tL); (exact tR3)) | ((with_reducible apply fLm F); exact rfl; exact rfl; (exact tL); (exact tM3); (exact tR3)) | ((with_reducible apply fX_int F); exact rfl; exact rfl))
  (clear F; intro b3 W F; try simp only [Act.put, List.setIfInBounds_toArray, List.set_cons_zero, List.set_cons_succ])
  go_wp2_with (first | go_skip | ((with_reducible apply fL F); exact rfl; exact rfl; (exact tL); (exact tR3)) | ((with_reducible apply fLm F); exact rfl; exact rfl; (exact tL); (exact tM3); (exact tR3)) | ((with_reducible apply fX_int F); exact rfl; exact rfl))
  try simp only [Act.put, List.setIfInBounds_toArray, List.set_cons_zero, List.set_cons_succ]
  have hpl : Tryz.prog.follows .mixedOrders = true := by kernel_rfl
  refine wp_region_slots hpl [5, 6, 7, 8, 9, 10] (fun l mm W => ∃ (s5 s6 s7 s8 s9 s10 : Value), mm = [s5, s6, s7, s8, s9, s10] ∧ (l.getD 0 false = true → s7 = .agg (IC x)) ∧ (l.getD 1 false = true → s8 = .int .i64 s) ∧ (l.getD 2 false = true → s9 = .agg (IC y)) ∧ (l.getD 3 false = true → s10 = .int .i64 t) ∧ (l.getD 4 false = true → s5 = .int .i64 s) ∧ (l.getD 5 false = true → s6 = .int .i64 t) ∧ Fr w W [(b3, IC y, 29), (b2, IC x, 29)]) (by kernel_rfl) rfl ?_ ?_ ?_
  · exact ⟨_, _, _, _, _, _, rfl, fun h => absurd h (by decide), fun h => absurd h (by decide), fun h => absurd h (by decide), fun h => absurd h (by decide), fun h => absurd h (by decide), fun h => absurd h (by decide), F.drew⟩
  · rintro listed mm W ii hi hsz hoff ⟨s5, s6, s7, s8, s9, s10, rfl, h0, h1, h2, h3, h4, h5, HF⟩ hd
    have hc : ii = 0 ∨ ii = 1 ∨ ii = 2 ∨ ii = 3 ∨ ii = 4 ∨ ii = 5 := by
      have hi2 : ii < 6 := hi
      omega
    have hsz2 : listed.size = 6 := hsz
    clear hi hsz
    rcases hc with rfl | rfl | rfl | rfl | rfl | rfl
    · refine wpOp_want rfl rfl (fun K hK => ?_)
      simp only [putAll, List.set_cons_zero, List.set_cons_succ, List.getElem_toArray, List.getElem_cons_succ, List.getElem_cons_zero]
      with_reducible apply gL HF
      · exact rfl
      · (exact tL)
      · (first | (exact tR3))
      go_simp
      exact hK _ _ ⟨[s5, s6, (.agg (IC x)), s8, s9, s10], by simp only [putAll, List.set_cons_zero, List.set_cons_succ], s5, s6, (.agg (IC x)), s8, s9, s10, rfl, fun _ => rfl, lk h1, lk h2, lk h3, lk h4, lk h5, HF⟩
    · have d0 := h0 (hd 0 (by kernel_rfl))
      obtain rfl := d0
      refine wpOp_want rfl rfl (fun K hK => ?_)
      simp only [putAll, List.set_cons_zero, List.set_cons_succ, List.getElem_toArray, List.getElem_cons_succ, List.getElem_cons_zero]
      refine ⟨?_⟩
      go_simp
      with_reducible refine fr_call HF (g1 _) ?_
      clear HF
      intro W HF
      (try dsimp only)
      exact hK _ _ ⟨[s5, s6, (.agg (IC x)), (.int .i64 s), s9, s10], by simp only [putAll, List.set_cons_zero, List.set_cons_succ], s5, s6, (.agg (IC x)), (.int .i64 s), s9, s10, rfl, lk h0, fun _ => rfl, lk h2, lk h3, lk h4, lk h5, HF⟩
    · refine wpOp_want rfl rfl (fun K hK => ?_)
      simp only [putAll, List.set_cons_zero, List.set_cons_succ, List.getElem_toArray, List.getElem_cons_succ, List.getElem_cons_zero]
      with_reducible apply gL HF
      · exact rfl
      · (exact tL)
      · (first | (exact tR3))
      go_simp
      exact hK _ _ ⟨[s5, s6, s7, s8, (.agg (IC y)), s10], by simp only [putAll, List.set_cons_zero, List.set_cons_succ], s5, s6, s7, s8, (.agg (IC y)), s10, rfl, lk h0, lk h1, fun _ => rfl, lk h3, lk h4, lk h5, HF⟩
    · have d2 := h2 (hd 2 (by kernel_rfl))
      obtain rfl := d2
      refine wpOp_want rfl rfl (fun K hK => ?_)
      simp only [putAll, List.set_cons_zero, List.set_cons_succ, List.getElem_toArray, List.getElem_cons_succ, List.getElem_cons_zero]
      refine ⟨?_⟩
      go_simp
      with_reducible refine fr_call HF (g2 _) ?_
      clear HF
      intro W HF
      (try dsimp only)
      exact hK _ _ ⟨[s5, s6, s7, s8, (.agg (IC y)), (.int .i64 t)], by simp only [putAll, List.set_cons_zero, List.set_cons_succ], s5, s6, s7, s8, (.agg (IC y)), (.int .i64 t), rfl, lk h0, lk h1, lk h2, fun _ => rfl, lk h4, lk h5, HF⟩
    · have d1 := h1 (hd 1 (by kernel_rfl))
      obtain rfl := d1
      refine wpOp_want rfl rfl (fun K hK => ?_)
      simp only [putAll, List.set_cons_zero, List.set_cons_succ, List.getElem_toArray, List.getElem_cons_succ, List.getElem_cons_zero]
      refine ⟨?_⟩
      go_simp
      exact hK _ _ ⟨[(.int .i64 s), s6, s7, (.int .i64 s), s9, s10], by simp only [putAll, List.set_cons_zero, List.set_cons_succ], (.int .i64 s), s6, s7, (.int .i64 s), s9, s10, rfl, lk h0, lk h1, lk h2, lk h3, fun _ => rfl, lk h5, HF⟩
    · have d3 := h3 (hd 3 (by kernel_rfl))
      obtain rfl := d3
      refine wpOp_want rfl rfl (fun K hK => ?_)
      simp only [putAll, List.set_cons_zero, List.set_cons_succ, List.getElem_toArray, List.getElem_cons_succ, List.getElem_cons_zero]
      refine ⟨?_⟩
      go_simp
      exact hK _ _ ⟨[s5, (.int .i64 t), s7, s8, s9, (.int .i64 t)], by simp only [putAll, List.set_cons_zero, List.set_cons_succ], s5, (.int .i64 t), s7, s8, s9, (.int .i64 t), rfl, lk h0, lk h1, lk h2, lk h3, lk h4, fun _ => rfl, HF⟩
  rintro listed mm W ⟨s5, s6, s7, s8, s9, s10, rfl, h0, h1, h2, h3, h4, h5, HF⟩ hall
  obtain rfl := h0 (hall 0 (by decide))
  obtain rfl := h1 (hall 1 (by decide))
  obtain rfl := h2 (hall 2 (by decide))
  obtain rfl := h3 (hall 3 (by decide))
  obtain rfl := h4 (hall 4 (by decide))
  obtain rfl := h5 (hall 5 (by decide))
  clear hall h0 h1 h2 h3 h4 h5 F
  have F := HF
  clear HF
  simp only [putAll, List.set_cons_zero, List.set_cons_succ]
  by_cases h1 : s < t
  · have hr : r = -1 := by rw [HC.out, if_pos h1]
    subst hr
    clear HC
    go_wp2_with (first | go_skip | ((with_reducible apply fL F); exact rfl; exact rfl; (exact tL); (exact tR3)) | ((with_reducible apply fLm F); exact rfl; exact rfl; (exact tL); (exact tM3); (exact tR3)) | ((with_reducible apply fX_int F); exact rfl; exact rfl))
    go_ret
    exact ⟨rfl, F.below⟩
  by_cases h2 : t < s
  · have hr : r = 1 := by rw [HC.out, if_neg h1, if_pos h2]
    subst hr
    clear HC
    go_wp2_with (first | go_skip | ((with_reducible apply fL F); exact rfl; exact rfl; (exact tL); (exact tR3)) | ((with_reducible apply fLm F); exact rfl; exact rfl; (exact tL); (exact tM3); (exact tR3)) | ((with_reducible apply fX_int F); exact rfl; exact rfl))
    go_ret
    exact ⟨rfl, F.below⟩
  have hr : r = p := by rw [HC.out, if_neg h1, if_neg h2]
  have t1 : decide (s < t) = false := decide_eq_false h1
  have t2 : decide (t < s) = false := decide_eq_false h2
  subst hr
  clear HC h1 h2
  go_wp2_with (first | go_skip | ((go_at_call 95); (with_reducible refine fr_call F (g3 _) ?_); (clear F; intro W F); (try dsimp only)) | ((with_reducible apply fL F); exact rfl; exact rfl; (exact tL); (exact tR3)) | ((with_reducible apply fLm F); exact rfl; exact rfl; (exact tL); (exact tM3); (exact tR3)) | ((with_reducible apply fX_int F); exact rfl; exact rfl))
  go_ret
  exact ⟨ret_int wp, F.below⟩
end
section
open Go.RowKit
set_option maxHeartbeats 4000000
theorem canon_self {x : Int} (hx : x.natAbs < bp 32) (w : World) : Calls Tryz.prog 129 #[.bool (decide (x < 0)), .agg (limA 32 x.natAbs)] w (RetB (.agg (IC x)) w) :=
  rcanonZ hx rfl (fun h => decide_eq_true h) (fun h => decide_eq_false (by omega)) w
set_option maxRecDepth 100000 in
theorem radd_any {x y : Int} (hx : x.natAbs < bp 32) (hy : y.natAbs < bp 32) (h : (x + y).natAbs < bp 32) (w : World) : Calls Tryz.prog 78 #[.agg (IC x), .agg (IC y)] w (RetB (.tuple #[.agg (IC (x + y)), .int .i64 0]) w) := by
  have F := Fr.start w
  have g1 := fun w => canon_self hx w
  have g2 := fun w => canon_self hy w
  obtain ⟨p, hp⟩ : ∃ p, decide (x < 0) = p := ⟨_, rfl⟩
  obtain ⟨q, hq⟩ : ∃ q, decide (y < 0) = q := ⟨_, rfl⟩
  have HX := Lib.hid (And.intro hx (And.intro hy (And.intro h (And.intro hp hq))))
  clear hx hy h hp hq
  go_enter Tryz.func78, Tryz.ntmps78
  go_wp2_with (first | go_skip | ((with_reducible apply fL F); exact rfl; exact rfl; (exact tL); (exact tR3)) | ((with_reducible apply fLm F); exact rfl; exact rfl; (exact tL); (exact tM3); (exact tR3)) | ((with_reducible apply fA_int F); exact rfl) | ((with_reducible apply fX_int F); exact rfl; exact rfl) | ((with_reducible apply fA_arr F); exact rfl) | ((with_reducible apply fS F); exact rfl; exact rfl; exact rfl; (exact tL); (exact tR3); (exact tS2); clear F; intro W F; simp only [List.cons_append, List.nil_append] at F) | ((with_reducible apply fB_int0); exact rfl))
  (clear F; intro b2 W F; try simp only [Act.put, List.setIfInBounds_toArray, List.set_cons_zero, List.set_cons_succ])
  go_wp2_with (first | go_skip | ((with_reducible apply fL F); exact rfl; exact rfl; (exact tL); (exact tR3)) | ((with_reducible apply fLm F); exact rfl; exact rfl; (exact tL); (exact tM3); (exact tR3)) | ((with_reducible apply fA_int F); exact rfl) | ((with_reducible apply fX_int F); exact rfl; exact rfl) | ((with_reducible apply fA_arr F); exact rfl) | ((with_reducible apply fS F); exact rfl; exact rfl; exact rfl; (exact tL); (exact tR3); (exact tS2); clear F; intro W F; simp only [List.cons_append, List.nil_append] at F) | ((with_reducible apply fB_int0); exact rfl))
  (clear F; intro b3 W F; try simp only [Act.put, List.setIfInBounds_toArray, List.set_cons_zero, List.set_cons_succ])
  go_wp2_with (first | go_skip | ((with_reducible apply fL F); exact rfl; exact rfl; (exact tL); (exact tR3)) | ((with_reducible apply fLm F); exact rfl; exact rfl; (exact tL); (exact tM3); (exact tR3)) | ((with_reducible apply fA_int F); exact rfl) | ((with_reducible apply fX_int F); exact rfl; exact rfl) | ((with_reducible apply fA_arr F); exact rfl) | ((with_reducible apply fS F); exact rfl; exact rfl; exact rfl; (exact tL); (exact tR3); (exact tS2); clear F; intro W F; simp only [List.cons_append, List.nil_append] at F) | ((with_reducible apply fB_int0); exact rfl))
  (clear F; intro b4 W F; try simp only [Act.put, List.setIfInBounds_toArray, List.set_cons_zero, List.set_cons_succ])
  go_wp2_with (first | go_skip | ((with_reducible apply fL F); exact rfl; exact rfl; (exact tL); (exact tR3)) | ((with_reducible apply fLm F); exact rfl; exact rfl; (exact tL); (exact tM3); (exact tR3)) | ((with_reducible apply fA_int F); exact rfl) | ((with_reducible apply fX_int F); exact rfl; exact rfl) | ((with_reducible apply fA_arr F); exact rfl) | ((with_reducible apply fS F); exact rfl; exact rfl; exact rfl; (exact tL); (exact tR3); (exact tS2); clear F; intro W F; simp only [List.cons_append, List.nil_append] at F) | ((with_reducible apply fB_int0); exact rfl))
  try simp only [Act.put, List.setIfInBounds_toArray, List.set_cons_zero, List.set_cons_succ]
  have hpl : Tryz.prog.follows .mixedOrders = true := by kernel_rfl
  refine wp_region_slots hpl [8, 9, 10, 11, 12, 13, 14, 15, 16, 17] (fun l mm W => ∃ (s8 s9 s10 s11 s12 s13 s14 s15 s16 s17 : Value) (c_b2 c_b3 : Array Value), mm = [s8, s9, s10, s11, s12, s13, s14, s15, s16, s17] ∧ (l.getD 0 false = true → s8 = .pointer (some ⟨b2, 0, none⟩)) ∧ (l.getD 1 false = true → s9 = .bool (decide (x < 0))) ∧ (l.getD 2 false = true → s10 = .pointer (some ⟨b2, 1, none⟩)) ∧ (l.getD 3 false = true → s11 = .agg (limA 32 ((x).natAbs))) ∧ (l.getD 4 false = true → s12 = .agg (IC x)) ∧ (l.getD 5 false = true → s13 = .pointer (some ⟨b3, 0, none⟩)) ∧ (l.getD 6 false = true → s14 = .bool (decide (y < 0))) ∧ (l.getD 7 false = true → s15 = .pointer (some ⟨b3, 1, none⟩)) ∧ (l.getD 8 false = true → s16 = .agg (limA 32 ((y).natAbs))) ∧ (l.getD 9 false = true → s17 = .agg (IC y)) ∧ (l.getD 10 false = true → c_b2 = IC x) ∧ (l.getD 11 false = true → c_b3 = IC y) ∧ (l.getD 10 false = false → c_b2 = IC x) ∧ (l.getD 10 false = true → l.getD 1 false = true) ∧ (l.getD 10 false = true → l.getD 3 false = true) ∧ (l.getD 11 false = false → c_b3 = IC y) ∧ (l.getD 11 false = true → l.getD 6 false = true) ∧ (l.getD 11 false = true → l.getD 8 false = true) ∧ c_b2.size = (IC x).size ∧ c_b3.size = (IC y).size ∧ Fr w W [(b4, intC false 0, 29), (b3, c_b3, 29), (b2, c_b2, 29)]) (by kernel_rfl) rfl ?_ ?_ ?_
  · exact ⟨_, _, _, _, _, _, _, _, _, _, (IC x), (IC y), rfl, fun h => absurd h (by decide), fun h => absurd h (by decide), fun h => absurd h (by decide), fun h => absurd h (by decide), fun h => absurd h (by decide), fun h => absurd h (by decide), fun h => absurd h (by decide), fun h => absurd h (by decide), fun h => absurd h (by decide), fun h => absurd h (by decide), fun h => absurd h (by decide), fun h => absurd h (by decide), fun _ => rfl, fun h => absurd h (by decide), fun h => absurd h (by decide), fun _ => rfl, fun h => absurd h (by decide), fun h => absurd h (by decide), by first | (focus (simp only [IC_size, intC_size, limA_size, RC_size, ratC_size]; done)) | exact rfl, by first | (focus (simp only [IC_size, intC_size, limA_size, RC_size, ratC_size]; done)) | exact rfl, F.drew⟩
  · rintro listed mm W ii hi hsz hoff ⟨s8, s9, s10, s11, s12, s13, s14, s15, s16, s17, c_b2, c_b3, rfl, h0, h1, h2, h3, h4, h5, h6, h7, h8, h9, h10, h11, hO_b2, hW_b2_1, hW_b2_3, hO_b3, hW_b3_6, hW_b3_8, hz0, hz1, HF⟩ hd
    have hc : ii = 0 ∨ ii = 1 ∨ ii = 2 ∨ ii = 3 ∨ ii = 4 ∨ ii = 5 ∨ ii = 6 ∨ ii = 7 ∨ ii = 8 ∨ ii = 9 ∨ ii = 10 ∨ ii = 11 := by
      have hi2 : ii < 12 := hi
      omega
    have hsz2 : listed.size = 12 := hsz
    clear hi hsz
    rcases hc with rfl | rfl | rfl | rfl | rfl | rfl | rfl | rfl | rfl | rfl | rfl | rfl
    · refine wpOp_want rfl rfl (fun K hK => ?_)
      simp only [putAll, List.set_cons_zero, List.set_cons_succ, List.getElem_toArray, List.getElem_cons_succ, List.getElem_cons_zero]
      refine ⟨?_⟩
      go_simp
      exact hK _ _ ⟨[(.pointer (some ⟨b2, 0, none⟩)), s9, s10, s11, s12, s13, s14, s15, s16, s17], by simp only [putAll, List.set_cons_zero, List.set_cons_succ], (.pointer (some ⟨b2, 0, none⟩)), s9, s10, s11, s12, s13, s14, s15, s16, s17, c_b2, c_b3, rfl, fun _ => rfl, lk h1, lk h2, lk h3, lk h4, lk h5, lk h6, lk h7, lk h8, lk h9, lk h10, lk h11, listed_keepF (by decide) hO_b2, fun h => by rw [getD_keep (show 0 ≠ 10 by decide)] at h; rw [getD_keep (show 0 ≠ 1 by decide)]; exact hW_b2_1 h, fun h => by rw [getD_keep (show 0 ≠ 10 by decide)] at h; rw [getD_keep (show 0 ≠ 3 by decide)]; exact hW_b2_3 h, listed_keepF (by decide) hO_b3, fun h => by rw [getD_keep (show 0 ≠ 11 by decide)] at h; rw [getD_keep (show 0 ≠ 6 by decide)]; exact hW_b3_6 h, fun h => by rw [getD_keep (show 0 ≠ 11 by decide)] at h; rw [getD_keep (show 0 ≠ 8 by decide)]; exact hW_b3_8 h, hz0, hz1, HF⟩
    · have d0 := h0 (hd 0 (by kernel_rfl))
      obtain rfl := d0
      refine wpOp_want rfl rfl (fun K hK => ?_)
      simp only [putAll, List.set_cons_zero, List.set_cons_succ, List.getElem_toArray, List.getElem_cons_succ, List.getElem_cons_zero]
      have hold := hO_b2 (by cases hx : listed.getD 10 false with | false => rfl | true => exact absurd (hW_b2_1 hx) (by rw [hoff]; decide))
      rw [hold] at HF
      have cF := BlkAt.cell (Fr.get HF (b := b2) (cs := IC x) (by (exact tL))) (intC_neg _ _)
      rw [← hold] at HF
      refine ⟨?_⟩
      go_simp
      exact hK _ _ ⟨[(.pointer (some ⟨b2, 0, none⟩)), (.bool (decide (x < 0))), s10, s11, s12, s13, s14, s15, s16, s17], by simp only [putAll, List.set_cons_zero, List.set_cons_succ], (.pointer (some ⟨b2, 0, none⟩)), (.bool (decide (x < 0))), s10, s11, s12, s13, s14, s15, s16, s17, c_b2, c_b3, rfl, lk h0, fun _ => rfl, lk h2, lk h3, lk h4, lk h5, lk h6, lk h7, lk h8, lk h9, lk h10, lk h11, listed_keepF (by decide) hO_b2, fun _ => getD_on (by omega), fun h => by rw [getD_keep (show 1 ≠ 10 by decide)] at h; rw [getD_keep (show 1 ≠ 3 by decide)]; exact hW_b2_3 h, listed_keepF (by decide) hO_b3, fun h => by rw [getD_keep (show 1 ≠ 11 by decide)] at h; rw [getD_keep (show 1 ≠ 6 by decide)]; exact hW_b3_6 h, fun h => by rw [getD_keep (show 1 ≠ 11 by decide)] at h; rw [getD_keep (show 1 ≠ 8 by decide)]; exact hW_b3_8 h, hz0, hz1, HF⟩
    · refine wpOp_want rfl rfl (fun K hK => ?_)
      simp only [putAll, List.set_cons_zero, List.set_cons_succ, List.getElem_toArray, List.getElem_cons_succ, List.getElem_cons_zero]
      refine ⟨?_⟩
      go_simp
      exact hK _ _ ⟨[s8, s9, (.pointer (some ⟨b2, 1, none⟩)), s11, s12, s13, s14, s15, s16, s17], by simp only [putAll, List.set_cons_zero, List.set_cons_succ], s8, s9, (.pointer (some ⟨b2, 1, none⟩)), s11, s12, s13, s14, s15, s16, s17, c_b2, c_b3, rfl, lk h0, lk h1, fun _ => rfl, lk h3, lk h4, lk h5, lk h6, lk h7, lk h8, lk h9, lk h10, lk h11, listed_keepF (by decide) hO_b2, fun h => by rw [getD_keep (show 2 ≠ 10 by decide)] at h; rw [getD_keep (show 2 ≠ 1 by decide)]; exact hW_b2_1 h, fun h => by rw [getD_keep (show 2 ≠ 10 by decide)] at h; rw [getD_keep (show 2 ≠ 3 by decide)]; exact hW_b2_3 h, listed_keepF (by decide) hO_b3, fun h => by rw [getD_keep (show 2 ≠ 11 by decide)] at h; rw [getD_keep (show 2 ≠ 6 by decide)]; exact hW_b3_6 h, fun h => by rw [getD_keep (show 2 ≠ 11 by decide)] at h; rw [getD_keep (show 2 ≠ 8 by decide)]; exact hW_b3_8 h, hz0, hz1, HF⟩
    · have d2 := h2 (hd 2 (by kernel_rfl))
      obtain rfl := d2
      refine wpOp_want rfl rfl (fun K hK => ?_)
      simp only [putAll, List.set_cons_zero, List.set_cons_succ, List.getElem_toArray, List.getElem_cons_succ, List.getElem_cons_zero]
      have hold := hO_b2 (by cases hx : listed.getD 10 false with | false => rfl | true => exact absurd (hW_b2_3 hx) (by rw [hoff]; decide))
      rw [hold] at HF
      with_reducible apply gLm HF
      · exact rfl
      · (exact tL)
      · exact IC_tail _
      · (first | (exact tR3))
      rw [← hold] at HF
      go_simp
      exact hK _ _ ⟨[s8, s9, (.pointer (some ⟨b2, 1, none⟩)), (.agg (limA 32 ((x).natAbs))), s12, s13, s14, s15, s16, s17], by simp only [putAll, List.set_cons_zero, List.set_cons_succ], s8, s9, (.pointer (some ⟨b2, 1, none⟩)), (.agg (limA 32 ((x).natAbs))), s12, s13, s14, s15, s16, s17, c_b2, c_b3, rfl, lk h0, lk h1, lk h2, fun _ => rfl, lk h4, lk h5, lk h6, lk h7, lk h8, lk h9, lk h10, lk h11, listed_keepF (by decide) hO_b2, fun h => by rw [getD_keep (show 3 ≠ 10 by decide)] at h; rw [getD_keep (show 3 ≠ 1 by decide)]; exact hW_b2_1 h, fun _ => getD_on (by omega), listed_keepF (by decide) hO_b3, fun h => by rw [getD_keep (show 3 ≠ 11 by decide)] at h; rw [getD_keep (show 3 ≠ 6 by decide)]; exact hW_b3_6 h, fun h => by rw [getD_keep (show 3 ≠ 11 by decide)] at h; rw [getD_keep (show 3 ≠ 8 by decide)]; exact hW_b3_8 h, hz0, hz1, HF⟩
    · have d1 := h1 (hd 1 (by kernel_rfl))
      have d3 := h3 (hd 3 (by kernel_rfl))
      obtain rfl := d1
      obtain rfl := d3
      refine wpOp_want rfl rfl (fun K hK => ?_)
      simp only [putAll, List.set_cons_zero, List.set_cons_succ, List.getElem_toArray, List.getElem_cons_succ, List.getElem_cons_zero]
      refine ⟨?_⟩
      go_simp
      with_reducible refine fr_call HF (g1 _) ?_
      clear HF
      intro W HF
      (try dsimp only)
      exact hK _ _ ⟨[s8, (.bool (decide (x < 0))), s10, (.agg (limA 32 ((x).natAbs))), (.agg (IC x)), s13, s14, s15, s16, s17], by simp only [putAll, List.set_cons_zero, List.set_cons_succ], s8, (.bool (decide (x < 0))), s10, (.agg (limA 32 ((x).natAbs))), (.agg (IC x)), s13, s14, s15, s16, s17, c_b2, c_b3, rfl, lk h0, lk h1, lk h2, lk h3, fun _ => rfl, lk h5, lk h6, lk h7, lk h8, lk h9, lk h10, lk h11, listed_keepF (by decide) hO_b2, fun h => by rw [getD_keep (show 4 ≠ 10 by decide)] at h; rw [getD_keep (show 4 ≠ 1 by decide)]; exact hW_b2_1 h, fun h => by rw [getD_keep (show 4 ≠ 10 by decide)] at h; rw [getD_keep (show 4 ≠ 3 by decide)]; exact hW_b2_3 h, listed_keepF (by decide) hO_b3, fun h => by rw [getD_keep (show 4 ≠ 11 by decide)] at h; rw [getD_keep (show 4 ≠ 6 by decide)]; exact hW_b3_6 h, fun h => by rw [getD_keep (show 4 ≠ 11 by decide)] at h; rw [getD_keep (show 4 ≠ 8 by decide)]; exact hW_b3_8 h, hz0, hz1, HF⟩
    · refine wpOp_want rfl rfl (fun K hK => ?_)
      simp only [putAll, List.set_cons_zero, List.set_cons_succ, List.getElem_toArray, List.getElem_cons_succ, List.getElem_cons_zero]
      refine ⟨?_⟩
      go_simp
      exact hK _ _ ⟨[s8, s9, s10, s11, s12, (.pointer (some ⟨b3, 0, none⟩)), s14, s15, s16, s17], by simp only [putAll, List.set_cons_zero, List.set_cons_succ], s8, s9, s10, s11, s12, (.pointer (some ⟨b3, 0, none⟩)), s14, s15, s16, s17, c_b2, c_b3, rfl, lk h0, lk h1, lk h2, lk h3, lk h4, fun _ => rfl, lk h6, lk h7, lk h8, lk h9, lk h10, lk h11, listed_keepF (by decide) hO_b2, fun h => by rw [getD_keep (show 5 ≠ 10 by decide)] at h; rw [getD_keep (show 5 ≠ 1 by decide)]; exact hW_b2_1 h, fun h => by rw [getD_keep (show 5 ≠ 10 by decide)] at h; rw [getD_keep (show 5 ≠ 3 by decide)]; exact hW_b2_3 h, listed_keepF (by decide) hO_b3, fun h => by rw [getD_keep (show 5 ≠ 11 by decide)] at h; rw [getD_keep (show 5 ≠ 6 by decide)]; exact hW_b3_6 h, fun h => by rw [getD_keep (show 5 ≠ 11 by decide)] at h; rw [getD_keep (show 5 ≠ 8 by decide)]; exact hW_b3_8 h, hz0, hz1, HF⟩
    · have d5 := h5 (hd 5 (by kernel_rfl))
      obtain rfl := d5
      refine wpOp_want rfl rfl (fun K hK => ?_)
      simp only [putAll, List.set_cons_zero, List.set_cons_succ, List.getElem_toArray, List.getElem_cons_succ, List.getElem_cons_zero]
      have hold := hO_b3 (by cases hx : listed.getD 11 false with | false => rfl | true => exact absurd (hW_b3_6 hx) (by rw [hoff]; decide))
      rw [hold] at HF
      have cF := BlkAt.cell (Fr.get HF (b := b3) (cs := IC y) (by (exact tL))) (intC_neg _ _)
      rw [← hold] at HF
      refine ⟨?_⟩
      go_simp
      exact hK _ _ ⟨[s8, s9, s10, s11, s12, (.pointer (some ⟨b3, 0, none⟩)), (.bool (decide (y < 0))), s15, s16, s17], by simp only [putAll, List.set_cons_zero, List.set_cons_succ], s8, s9, s10, s11, s12, (.pointer (some ⟨b3, 0, none⟩)), (.bool (decide (y < 0))), s15, s16, s17, c_b2, c_b3, rfl, lk h0, lk h1, lk h2, lk h3, lk h4, lk h5, fun _ => rfl, lk h7, lk h8, lk h9, lk h10, lk h11, listed_keepF (by decide) hO_b2, fun h => by rw [getD_keep (show 6 ≠ 10 by decide)] at h; rw [getD_keep (show 6 ≠ 1 by decide)]; exact hW_b2_1 h, fun h => by rw [getD_keep (show 6 ≠ 10 by decide)] at h; rw [getD_keep (show 6 ≠ 3 by decide)]; exact hW_b2_3 h, listed_keepF (by decide) hO_b3, fun _ => getD_on (by omega), fun h => by rw [getD_keep (show 6 ≠ 11 by decide)] at h; rw [getD_keep (show 6 ≠ 8 by decide)]; exact hW_b3_8 h, hz0, hz1, HF⟩
    · refine wpOp_want rfl rfl (fun K hK => ?_)
      simp only [putAll, List.set_cons_zero, List.set_cons_succ, List.getElem_toArray, List.getElem_cons_succ, List.getElem_cons_zero]
      refine ⟨?_⟩
      go_simp
      exact hK _ _ ⟨[s8, s9, s10, s11, s12, s13, s14, (.pointer (some ⟨b3, 1, none⟩)), s16, s17], by simp only [putAll, List.set_cons_zero, List.set_cons_succ], s8, s9, s10, s11, s12, s13, s14, (.pointer (some ⟨b3, 1, none⟩)), s16, s17, c_b2, c_b3, rfl, lk h0, lk h1, lk h2, lk h3, lk h4, lk h5, lk h6, fun _ => rfl, lk h8, lk h9, lk h10, lk h11, listed_keepF (by decide) hO_b2, fun h => by rw [getD_keep (show 7 ≠ 10 by decide)] at h; rw [getD_keep (show 7 ≠ 1 by decide)]; exact hW_b2_1 h, fun h => by rw [getD_keep (show 7 ≠ 10 by decide)] at h; rw [getD_keep (show 7 ≠ 3 by decide)]; exact hW_b2_3 h, listed_keepF (by decide) hO_b3, fun h => by rw [getD_keep (show 7 ≠ 11 by decide)] at h; rw [getD_keep (show 7 ≠ 6 by decide)]; exact hW_b3_6 h, fun h => by rw [getD_keep (show 7 ≠ 11 by decide)] at h; rw [getD_keep (show 7 ≠ 8 by decide)]; exact hW_b3_8 h, hz0, hz1, HF⟩
    · have d7 := h7 (hd 7 (by kernel_rfl))
      obtain rfl := d7
      refine wpOp_want rfl rfl (fun K hK => ?_)
      simp only [putAll, List.set_cons_zero, List.set_cons_succ, List.getElem_toArray, List.getElem_cons_succ, List.getElem_cons_zero]
      have hold := hO_b3 (by cases hx : listed.getD 11 false with | false => rfl | true => exact absurd (hW_b3_8 hx) (by rw [hoff]; decide))
      rw [hold] at HF
      with_reducible apply gLm HF
      · exact rfl
      · (exact tL)
      · exact IC_tail _
      · (first | (exact tR3))
      rw [← hold] at HF
      go_simp
      exact hK _ _ ⟨[s8, s9, s10, s11, s12, s13, s14, (.pointer (some ⟨b3, 1, none⟩)), (.agg (limA 32 ((y).natAbs))), s17], by simp only [putAll, List.set_cons_zero, List.set_cons_succ], s8, s9, s10, s11, s12, s13, s14, (.pointer (some ⟨b3, 1, none⟩)), (.agg (limA 32 ((y).natAbs))), s17, c_b2, c_b3, rfl, lk h0, lk h1, lk h2, lk h3, lk h4, lk h5, lk h6, lk h7, fun _ => rfl, lk h9, lk h10, lk h11, listed_keepF (by decide) hO_b2, fun h => by rw [getD_keep (show 8 ≠ 10 by decide)] at h; rw [getD_keep (show 8 ≠ 1 by decide)]; exact hW_b2_1 h, fun h => by rw [getD_keep (show 8 ≠ 10 by decide)] at h; rw [getD_keep (show 8 ≠ 3 by decide)]; exact hW_b2_3 h, listed_keepF (by decide) hO_b3, fun h => by rw [getD_keep (show 8 ≠ 11 by decide)] at h; rw [getD_keep (show 8 ≠ 6 by decide)]; exact hW_b3_6 h, fun _ => getD_on (by omega), hz0, hz1, HF⟩
    · have d6 := h6 (hd 6 (by kernel_rfl))
      have d8 := h8 (hd 8 (by kernel_rfl))
      obtain rfl := d6
      obtain rfl := d8
      refine wpOp_want rfl rfl (fun K hK => ?_)
      simp only [putAll, List.set_cons_zero, List.set_cons_succ, List.getElem_toArray, List.getElem_cons_succ, List.getElem_cons_zero]
      refine ⟨?_⟩
      go_simp
      with_reducible refine fr_call HF (g2 _) ?_
      clear HF
      intro W HF
      (try dsimp only)
      exact hK _ _ ⟨[s8, s9, s10, s11, s12, s13, (.bool (decide (y < 0))), s15, (.agg (limA 32 ((y).natAbs))), (.agg (IC y))], by simp only [putAll, List.set_cons_zero, List.set_cons_succ], s8, s9, s10, s11, s12, s13, (.bool (decide (y < 0))), s15, (.agg (limA 32 ((y).natAbs))), (.agg (IC y)), c_b2, c_b3, rfl, lk h0, lk h1, lk h2, lk h3, lk h4, lk h5, lk h6, lk h7, lk h8, fun _ => rfl, lk h10, lk h11, listed_keepF (by decide) hO_b2, fun h => by rw [getD_keep (show 9 ≠ 10 by decide)] at h; rw [getD_keep (show 9 ≠ 1 by decide)]; exact hW_b2_1 h, fun h => by rw [getD_keep (show 9 ≠ 10 by decide)] at h; rw [getD_keep (show 9 ≠ 3 by decide)]; exact hW_b2_3 h, listed_keepF (by decide) hO_b3, fun h => by rw [getD_keep (show 9 ≠ 11 by decide)] at h; rw [getD_keep (show 9 ≠ 6 by decide)]; exact hW_b3_6 h, fun h => by rw [getD_keep (show 9 ≠ 11 by decide)] at h; rw [getD_keep (show 9 ≠ 8 by decide)]; exact hW_b3_8 h, hz0, hz1, HF⟩
    · have d4 := h4 (hd 4 (by kernel_rfl))
      obtain rfl := d4
      refine wpOp_want rfl rfl (fun K hK => ?_)
      simp only [putAll, List.set_cons_zero, List.set_cons_succ, List.getElem_toArray, List.getElem_cons_succ, List.getElem_cons_zero]
      with_reducible apply gS HF
      · exact rfl
      · exact rfl
      · (exact tL)
      · (first | (exact tR3))
      · first | exact hz0 | first | (focus (simp only [IC_size, intC_size, limA_size, RC_size, ratC_size]; done)) | exact rfl
      clear HF
      intro W HF
      simp only [List.cons_append, List.nil_append] at HF
      go_simp
      exact hK _ _ ⟨[s8, s9, s10, s11, (.agg (IC x)), s13, s14, s15, s16, s17], by simp only [putAll, List.set_cons_zero, List.set_cons_succ], s8, s9, s10, s11, (.agg (IC x)), s13, s14, s15, s16, s17, (IC x), c_b3, rfl, lk h0, lk h1, lk h2, lk h3, lk h4, lk h5, lk h6, lk h7, lk h8, lk h9, fun _ => rfl, lk h11, fun h => absurd h (by rw [getD_on (show 10 < listed.size by omega)]; decide), fun _ => by rw [getD_keep (show 10 ≠ 1 by decide)]; exact hd 1 (by kernel_rfl), fun _ => by rw [getD_keep (show 10 ≠ 3 by decide)]; exact hd 3 (by kernel_rfl), listed_keepF (by decide) hO_b3, fun h => by rw [getD_keep (show 10 ≠ 11 by decide)] at h; rw [getD_keep (show 10 ≠ 6 by decide)]; exact hW_b3_6 h, fun h => by rw [getD_keep (show 10 ≠ 11 by decide)] at h; rw [getD_keep (show 10 ≠ 8 by decide)]; exact hW_b3_8 h, rfl, hz1, HF⟩
    · have d9 := h9 (hd 9 (by kernel_rfl))
      obtain rfl := d9
      refine wpOp_want rfl rfl (fun K hK => ?_)
      simp only [putAll, List.set_cons_zero, List.set_cons_succ, List.getElem_toArray, List.getElem_cons_succ, List.getElem_cons_zero]
      with_reducible apply gS HF
      · exact rfl
      · exact rfl
      · (exact tL)
      · (first | (exact tR3))
      · first | exact hz1 | first | (focus (simp only [IC_size, intC_size, limA_size, RC_size, ratC_size]; done)) | exact rfl
      clear HF
      intro W HF
      simp only [List.cons_append, List.nil_append] at HF
      go_simp
      exact hK _ _ ⟨[s8, s9, s10, s11, s12, s13, s14, s15, s16, (.agg (IC y))], by simp only [putAll, List.set_cons_zero, List.set_cons_succ], s8, s9, s10, s11, s12, s13, s14, s15, s16, (.agg (IC y)), c_b2, (IC y), rfl, lk h0, lk h1, lk h2, lk h3, lk h4, lk h5, lk h6, lk h7, lk h8, lk h9, lk h10, fun _ => rfl, listed_keepF (by decide) hO_b2, fun h => by rw [getD_keep (show 11 ≠ 10 by decide)] at h; rw [getD_keep (show 11 ≠ 1 by decide)]; exact hW_b2_1 h, fun h => by rw [getD_keep (show 11 ≠ 10 by decide)] at h; rw [getD_keep (show 11 ≠ 3 by decide)]; exact hW_b2_3 h, fun h => absurd h (by rw [getD_on (show 11 < listed.size by omega)]; decide), fun _ => by rw [getD_keep (show 11 ≠ 6 by decide)]; exact hd 6 (by kernel_rfl), fun _ => by rw [getD_keep (show 11 ≠ 8 by decide)]; exact hd 8 (by kernel_rfl), hz0, rfl, HF⟩
  rintro listed mm W ⟨s8, s9, s10, s11, s12, s13, s14, s15, s16, s17, c_b2, c_b3, rfl, h0, h1, h2, h3, h4, h5, h6, h7, h8, h9, h10, h11, hO_b2, hW_b2_1, hW_b2_3, hO_b3, hW_b3_6, hW_b3_8, hz0, hz1, HF⟩ hall
  obtain rfl := h0 (hall 0 (by decide))
  obtain rfl := h1 (hall 1 (by decide))
  obtain rfl := h2 (hall 2 (by decide))
  obtain rfl := h3 (hall 3 (by decide))
  obtain rfl := h4 (hall 4 (by decide))
  obtain rfl := h5 (hall 5 (by decide))
  obtain rfl := h6 (hall 6 (by decide))
  obtain rfl := h7 (hall 7 (by decide))
  obtain rfl := h8 (hall 8 (by decide))
  obtain rfl := h9 (hall 9 (by decide))
  rw [h10 (hall 10 (by decide))] at HF
  rw [h11 (hall 11 (by decide))] at HF
  clear hall h0 h1 h2 h3 h4 h5 h6 h7 h8 h9 h10 h11 hO_b2 hW_b2_1 hW_b2_3 hO_b3 hW_b3_6 hW_b3_8 hz0 hz1 F
  have F := HF
  clear HF
  simp only [putAll, List.set_cons_zero, List.set_cons_succ]
  have c2 := BlkAt.cell (F.get (b := b2) (cs := IC x) tL) (intC_neg (decide (x < 0)) x.natAbs)
  have c3 := BlkAt.cell (F.get (b := b3) (cs := IC y) tL) (intC_neg (decide (y < 0)) y.natAbs)
  rw [HX.out.2.2.2.1] at c2
  rw [HX.out.2.2.2.2] at c3
  clear g1 g2
  by_cases hpq : p = q
  · subst hpq
    have hs : (x + y).natAbs = x.natAbs + y.natAbs := by
      have h1 := HX.out.2.2.2.1
      have h2 := HX.out.2.2.2.2
      cases p
      · have := of_decide_eq_false h1; have := of_decide_eq_false h2; omega
      · have := of_decide_eq_true h1; have := of_decide_eq_true h2; omega
    have g3 := fun w => rsum_any HX.out.1 HX.out.2.1 (c := (x + y).natAbs) (f := true) (by rw [← hs]; exact Nat.mod_eq_of_lt HX.out.2.2.1) (by rw [← hs]; exact decide_eq_true HX.out.2.2.1) w
    have g4 := fun w => rcanonZ (n := p) (m := (x + y).natAbs) (x := x + y) HX.out.2.2.1 rfl (fun h => by
      have h1 := HX.out.2.2.2.1
      have h2 := HX.out.2.2.2.2
      cases p
      · have := of_decide_eq_false h1; have := of_decide_eq_false h2; omega
      · rfl) (fun h => by
      have h1 := HX.out.2.2.2.1
      have h2 := HX.out.2.2.2.2
      cases p
      · rfl
      · have := of_decide_eq_true h1; have := of_decide_eq_true h2; omega) w
    clear hs
    have cb : ∀ W, Fr w W [(b2, IC x, 29)] → W.cell? ⟨b2, 0, none⟩ = some (.bool p) := fun W h => by
      have h := BlkAt.cell (h.get (b := b2) (cs := IC x) tL) (intC_neg (decide (x < 0)) x.natAbs)
      rwa [HX.out.2.2.2.1] at h
    clear HX
    have t1 : (p == p) = true := beq_self_eq_true p
    go_wp2_with (first | go_skip | ((go_at_call 128); (with_reducible refine fr_call F (g3 _) ?_); (clear F; intro W F); (try dsimp only)) | ((with_reducible apply fL F); exact rfl; exact rfl; (exact tL); (exact tR3)) | ((with_reducible apply fLm F); exact rfl; exact rfl; (exact tL); (exact tM3); (exact tR3)) | ((with_reducible apply fA_int F); exact rfl) | ((with_reducible apply fX_int F); exact rfl; exact rfl) | ((with_reducible apply fA_arr F); exact rfl) | ((with_reducible apply fS F); exact rfl; exact rfl; exact rfl; (exact tL); (exact tR3); (exact tS2); clear F; intro W F; simp only [List.cons_append, List.nil_append] at F) | ((with_reducible apply fB_int0); exact rfl))
    (clear F; intro b6 W F; try simp only [Act.put, List.setIfInBounds_toArray, List.set_cons_zero, List.set_cons_succ])
    clear c2 c3
    go_upto_region 6 with (first | go_skip | ((with_reducible apply fL F); exact rfl; exact rfl; (exact tL); (exact tR3)) | ((with_reducible apply fLm F); exact rfl; exact rfl; (exact tL); (exact tM3); (exact tR3)) | ((with_reducible apply fA_int F); exact rfl) | ((with_reducible apply fX_int F); exact rfl; exact rfl) | ((with_reducible apply fA_arr F); exact rfl) | ((with_reducible apply fS F); exact rfl; exact rfl; exact rfl; (exact tL); (exact tR3); (exact tS2); clear F; intro W F; simp only [List.cons_append, List.nil_append] at F) | ((with_reducible apply fB_int0); exact rfl))
    have c2 := cb _ (F.sub (by repeat (first | exact List.Sublist.slnil | apply List.Sublist.cons_cons | apply List.Sublist.cons)))
    clear cb
    go_wp2_with (first | go_skip | ((go_at_call 129); (with_reducible refine fr_call F (g4 _) ?_); (clear F; intro W F); (try dsimp only)) | ((with_reducible apply fL F); exact rfl; exact rfl; (exact tL); (exact tR3)) | ((with_reducible apply fLm F); exact rfl; exact rfl; (exact tL); (exact tM3); (exact tR3)) | ((with_reducible apply fA_int F); exact rfl) | ((with_reducible apply fX_int F); exact rfl; exact rfl) | ((with_reducible apply fA_arr F); exact rfl) | ((with_reducible apply fS F); exact rfl; exact rfl; exact rfl; (exact tL); (exact tR3); (exact tS2); clear F; intro W F; simp only [List.cons_append, List.nil_append] at F) | ((with_reducible apply fB_int0); exact rfl))
    exact bodyPost_ret (res_cs rfl rfl rfl (Fr.get F tL) (rowIC _)) rfl ⟨rfl, F.below⟩
  have t1 : (p == q) = false := by rw [beq_eq_false_iff_ne]; exact hpq
  have g3 := fun w => rcompare_any HX.out.1 HX.out.2.1 w
  by_cases hlt : x.natAbs < y.natAbs
  · have hc : cmpN x.natAbs y.natAbs = -1 := by unfold cmpN; rw [if_pos hlt]
    rw [hc] at g3
    have hs : y.natAbs - x.natAbs = (x + y).natAbs := by
      have h1 := HX.out.2.2.2.1
      have h2 := HX.out.2.2.2.2
      cases p <;> cases q
      · exact absurd rfl hpq
      · have := of_decide_eq_false h1; have := of_decide_eq_true h2; omega
      · have := of_decide_eq_true h1; have := of_decide_eq_false h2; omega
      · exact absurd rfl hpq
    have g4 := fun w => rdiff_le HX.out.2.1 HX.out.1 (Nat.le_of_lt hlt) w
    rw [hs] at g4
    have g5 := fun w => rcanonZ (n := q) (m := (x + y).natAbs) (x := x + y) HX.out.2.2.1 rfl (fun h => by
      have h2 := HX.out.2.2.2.2
      cases q
      · have := of_decide_eq_false h2; omega
      · rfl) (fun h => by
      have h2 := HX.out.2.2.2.2
      cases q
      · rfl
      · have := of_decide_eq_true h2; omega) w
    have cb : ∀ W, Fr w W [(b2, IC y, 29)] → W.cell? ⟨b2, 0, none⟩ = some (.bool q) := fun W h => by
      have h := BlkAt.cell (h.get (b := b2) (cs := IC y) tL) (intC_neg (decide (y < 0)) y.natAbs)
      rwa [HX.out.2.2.2.2] at h
    clear hc hs HX hpq hlt
    go_upto_region 9 with (first | go_skip | ((go_at_call 95); (with_reducible refine fr_call F (g3 _) ?_); (clear F; intro W F); (try dsimp only)) | ((with_reducible apply fL F); exact rfl; exact rfl; (exact tL); (exact tR3)) | ((with_reducible apply fLm F); exact rfl; exact rfl; (exact tL); (exact tM3); (exact tR3)) | ((with_reducible apply fA_int F); exact rfl) | ((with_reducible apply fX_int F); exact rfl; exact rfl) | ((with_reducible apply fA_arr F); exact rfl) | ((with_reducible apply fS F); exact rfl; exact rfl; exact rfl; (exact tL); (exact tR3); (exact tS2); clear F; intro W F; simp only [List.cons_append, List.nil_append] at F) | ((with_reducible apply fB_int0); exact rfl))
    clear c2 c3
    have hq2 : decide (y < 0) = q := by
      have h := cb _ (F.sub (by repeat (first | exact List.Sublist.slnil | apply List.Sublist.cons_cons | apply List.Sublist.cons)))
      have h2 := BlkAt.cell (F.get (b := b2) (cs := IC y) tL) (intC_neg (decide (y < 0)) y.natAbs)
      rw [h] at h2
      injection h2 with h2
      injection h2 with h2
      exact h2.symm
    rw [← hq2] at g5
    clear hq2 cb
    try simp only [Act.put, List.setIfInBounds_toArray, List.set_cons_zero, List.set_cons_succ]
    have hpl : Tryz.prog.follows .mixedOrders = true := by kernel_rfl
    refine wp_region_slots hpl [5, 46, 47, 48, 49, 50, 51, 52, 53] (fun l mm W => ∃ (s5 s46 s47 s48 s49 s50 s51 s52 s53 : Value) (c_b4 : Array Value), mm = [s5, s46, s47, s48, s49, s50, s51, s52, s53] ∧ (l.getD 0 false = true → s46 = .pointer (some ⟨b2, 0, none⟩)) ∧ (l.getD 1 false = true → s47 = .bool (decide (y < 0))) ∧ (l.getD 2 false = true → s48 = .pointer (some ⟨b2, 1, none⟩)) ∧ (l.getD 3 false = true → s49 = .agg (limA 32 ((y).natAbs))) ∧ (l.getD 4 false = true → s50 = .pointer (some ⟨b3, 1, none⟩)) ∧ (l.getD 5 false = true → s51 = .agg (limA 32 ((x).natAbs))) ∧ (l.getD 6 false = true → s52 = .agg (limA 32 (x + y).natAbs)) ∧ (l.getD 7 false = true → s53 = .agg (IC (x + y))) ∧ (l.getD 8 false = true → c_b4 = IC (x + y)) ∧ (l.getD 9 false = true → s5 = .int .i64 0) ∧ c_b4.size = (IC (x + y)).size ∧ Fr w W [(b4, c_b4, 29), (b3, IC x, 29), (b2, IC y, 29)]) (by kernel_rfl) rfl ?_ ?_ ?_
    · exact ⟨_, _, _, _, _, _, _, _, _, (intC false 0), rfl, fun h => absurd h (by decide), fun h => absurd h (by decide), fun h => absurd h (by decide), fun h => absurd h (by decide), fun h => absurd h (by decide), fun h => absurd h (by decide), fun h => absurd h (by decide), fun h => absurd h (by decide), fun h => absurd h (by decide), fun h => absurd h (by decide), by first | (focus (simp only [IC_size, intC_size, limA_size, RC_size, ratC_size]; done)) | exact rfl, F.drew⟩
    · rintro listed mm W ii hi hsz hoff ⟨s5, s46, s47, s48, s49, s50, s51, s52, s53, c_b4, rfl, h0, h1, h2, h3, h4, h5, h6, h7, h8, h9, hz0, HF⟩ hd
      have hc : ii = 0 ∨ ii = 1 ∨ ii = 2 ∨ ii = 3 ∨ ii = 4 ∨ ii = 5 ∨ ii = 6 ∨ ii = 7 ∨ ii = 8 ∨ ii = 9 := by
        have hi2 : ii < 10 := hi
        omega
      have hsz2 : listed.size = 10 := hsz
      clear hi hsz
      rcases hc with rfl | rfl | rfl | rfl | rfl | rfl | rfl | rfl | rfl | rfl
      · refine wpOp_want rfl rfl (fun K hK => ?_)
        simp only [putAll, List.set_cons_zero, List.set_cons_succ, List.getElem_toArray, List.getElem_cons_succ, List.getElem_cons_zero]
        refine ⟨?_⟩
        go_simp
        exact hK _ _ ⟨[s5, (.pointer (some ⟨b2, 0, none⟩)), s47, s48, s49, s50, s51, s52, s53], by simp only [putAll, List.set_cons_zero, List.set_cons_succ], s5, (.pointer (some ⟨b2, 0, none⟩)), s47, s48, s49, s50, s51, s52, s53, c_b4, rfl, fun _ => rfl, lk h1, lk h2, lk h3, lk h4, lk h5, lk h6, lk h7, lk h8, lk h9, hz0, HF⟩
      · have d0 := h0 (hd 0 (by kernel_rfl))
        obtain rfl := d0
        refine wpOp_want rfl rfl (fun K hK => ?_)
        simp only [putAll, List.set_cons_zero, List.set_cons_succ, List.getElem_toArray, List.getElem_cons_succ, List.getElem_cons_zero]
        have cF := BlkAt.cell (Fr.get HF (b := b2) (cs := IC y) (by (exact tL))) (intC_neg _ _)
        refine ⟨?_⟩
        go_simp
        exact hK _ _ ⟨[s5, (.pointer (some ⟨b2, 0, none⟩)), (.bool (decide (y < 0))), s48, s49, s50, s51, s52, s53], by simp only [putAll, List.set_cons_zero, List.set_cons_succ], s5, (.pointer (some ⟨b2, 0, none⟩)), (.bool (decide (y < 0))), s48, s49, s50, s51, s52, s53, c_b4, rfl, lk h0, fun _ => rfl, lk h2, lk h3, lk h4, lk h5, lk h6, lk h7, lk h8, lk h9, hz0, HF⟩
      · refine wpOp_want rfl rfl (fun K hK => ?_)
        simp only [putAll, List.set_cons_zero, List.set_cons_succ, List.getElem_toArray, List.getElem_cons_succ, List.getElem_cons_zero]
        refine ⟨?_⟩
        go_simp
        exact hK _ _ ⟨[s5, s46, s47, (.pointer (some ⟨b2, 1, none⟩)), s49, s50, s51, s52, s53], by simp only [putAll, List.set_cons_zero, List.set_cons_succ], s5, s46, s47, (.pointer (some ⟨b2, 1, none⟩)), s49, s50, s51, s52, s53, c_b4, rfl, lk h0, lk h1, fun _ => rfl, lk h3, lk h4, lk h5, lk h6, lk h7, lk h8, lk h9, hz0, HF⟩
      · have d2 := h2 (hd 2 (by kernel_rfl))
        obtain rfl := d2
        refine wpOp_want rfl rfl (fun K hK => ?_)
        simp only [putAll, List.set_cons_zero, List.set_cons_succ, List.getElem_toArray, List.getElem_cons_succ, List.getElem_cons_zero]
        with_reducible apply gLm HF
        · exact rfl
        · (exact tL)
        · exact IC_tail _
        · (first | (exact tR3))
        go_simp
        exact hK _ _ ⟨[s5, s46, s47, (.pointer (some ⟨b2, 1, none⟩)), (.agg (limA 32 ((y).natAbs))), s50, s51, s52, s53], by simp only [putAll, List.set_cons_zero, List.set_cons_succ], s5, s46, s47, (.pointer (some ⟨b2, 1, none⟩)), (.agg (limA 32 ((y).natAbs))), s50, s51, s52, s53, c_b4, rfl, lk h0, lk h1, lk h2, fun _ => rfl, lk h4, lk h5, lk h6, lk h7, lk h8, lk h9, hz0, HF⟩
      · refine wpOp_want rfl rfl (fun K hK => ?_)
        simp only [putAll, List.set_cons_zero, List.set_cons_succ, List.getElem_toArray, List.getElem_cons_succ, List.getElem_cons_zero]
        refine ⟨?_⟩
        go_simp
        exact hK _ _ ⟨[s5, s46, s47, s48, s49, (.pointer (some ⟨b3, 1, none⟩)), s51, s52, s53], by simp only [putAll, List.set_cons_zero, List.set_cons_succ], s5, s46, s47, s48, s49, (.pointer (some ⟨b3, 1, none⟩)), s51, s52, s53, c_b4, rfl, lk h0, lk h1, lk h2, lk h3, fun _ => rfl, lk h5, lk h6, lk h7, lk h8, lk h9, hz0, HF⟩
      · have d4 := h4 (hd 4 (by kernel_rfl))
        obtain rfl := d4
        refine wpOp_want rfl rfl (fun K hK => ?_)
        simp only [putAll, List.set_cons_zero, List.set_cons_succ, List.getElem_toArray, List.getElem_cons_succ, List.getElem_cons_zero]
        with_reducible apply gLm HF
        · exact rfl
        · (exact tL)
        · exact IC_tail _
        · (first | (exact tR3))
        go_simp
        exact hK _ _ ⟨[s5, s46, s47, s48, s49, (.pointer (some ⟨b3, 1, none⟩)), (.agg (limA 32 ((x).natAbs))), s52, s53], by simp only [putAll, List.set_cons_zero, List.set_cons_succ], s5, s46, s47, s48, s49, (.pointer (some ⟨b3, 1, none⟩)), (.agg (limA 32 ((x).natAbs))), s52, s53, c_b4, rfl, lk h0, lk h1, lk h2, lk h3, lk h4, fun _ => rfl, lk h6, lk h7, lk h8, lk h9, hz0, HF⟩
      · have d3 := h3 (hd 3 (by kernel_rfl))
        have d5 := h5 (hd 5 (by kernel_rfl))
        obtain rfl := d3
        obtain rfl := d5
        refine wpOp_want rfl rfl (fun K hK => ?_)
        simp only [putAll, List.set_cons_zero, List.set_cons_succ, List.getElem_toArray, List.getElem_cons_succ, List.getElem_cons_zero]
        refine ⟨?_⟩
        go_simp
        with_reducible refine fr_call HF (g4 _) ?_
        clear HF
        intro W HF
        (try dsimp only)
        exact hK _ _ ⟨[s5, s46, s47, s48, (.agg (limA 32 ((y).natAbs))), s50, (.agg (limA 32 ((x).natAbs))), (.agg (limA 32 (x + y).natAbs)), s53], by simp only [putAll, List.set_cons_zero, List.set_cons_succ], s5, s46, s47, s48, (.agg (limA 32 ((y).natAbs))), s50, (.agg (limA 32 ((x).natAbs))), (.agg (limA 32 (x + y).natAbs)), s53, c_b4, rfl, lk h0, lk h1, lk h2, lk h3, lk h4, lk h5, fun _ => rfl, lk h7, lk h8, lk h9, hz0, HF⟩
      · have d1 := h1 (hd 1 (by kernel_rfl))
        have d6 := h6 (hd 6 (by kernel_rfl))
        obtain rfl := d1
        obtain rfl := d6
        refine wpOp_want rfl rfl (fun K hK => ?_)
        simp only [putAll, List.set_cons_zero, List.set_cons_succ, List.getElem_toArray, List.getElem_cons_succ, List.getElem_cons_zero]
        refine ⟨?_⟩
        go_simp
        with_reducible refine fr_call HF (g5 _) ?_
        clear HF
        intro W HF
        (try dsimp only)
        exact hK _ _ ⟨[s5, s46, (.bool (decide (y < 0))), s48, s49, s50, s51, (.agg (limA 32 (x + y).natAbs)), (.agg (IC (x + y)))], by simp only [putAll, List.set_cons_zero, List.set_cons_succ], s5, s46, (.bool (decide (y < 0))), s48, s49, s50, s51, (.agg (limA 32 (x + y).natAbs)), (.agg (IC (x + y))), c_b4, rfl, lk h0, lk h1, lk h2, lk h3, lk h4, lk h5, lk h6, fun _ => rfl, lk h8, lk h9, hz0, HF⟩
      · have d7 := h7 (hd 7 (by kernel_rfl))
        obtain rfl := d7
        refine wpOp_want rfl rfl (fun K hK => ?_)
        simp only [putAll, List.set_cons_zero, List.set_cons_succ, List.getElem_toArray, List.getElem_cons_succ, List.getElem_cons_zero]
        with_reducible apply gS HF
        · exact rfl
        · exact rfl
        · (exact tL)
        · (first | (exact tR3))
        · first | exact hz0 | first | (focus (simp only [IC_size, intC_size, limA_size, RC_size, ratC_size]; done)) | exact rfl
        clear HF
        intro W HF
        simp only [List.cons_append, List.nil_append] at HF
        go_simp
        exact hK _ _ ⟨[s5, s46, s47, s48, s49, s50, s51, s52, (.agg (IC (x + y)))], by simp only [putAll, List.set_cons_zero, List.set_cons_succ], s5, s46, s47, s48, s49, s50, s51, s52, (.agg (IC (x + y))), (IC (x + y)), rfl, lk h0, lk h1, lk h2, lk h3, lk h4, lk h5, lk h6, lk h7, fun _ => rfl, lk h9, rfl, HF⟩
      · refine wpOp_want rfl rfl (fun K hK => ?_)
        simp only [putAll, List.set_cons_zero, List.set_cons_succ, List.getElem_toArray, List.getElem_cons_succ, List.getElem_cons_zero]
        refine ⟨?_⟩
        go_simp
        exact hK _ _ ⟨[(.int .i64 0), s46, s47, s48, s49, s50, s51, s52, s53], by simp only [putAll, List.set_cons_zero, List.set_cons_succ], (.int .i64 0), s46, s47, s48, s49, s50, s51, s52, s53, c_b4, rfl, lk h0, lk h1, lk h2, lk h3, lk h4, lk h5, lk h6, lk h7, lk h8, fun _ => rfl, hz0, HF⟩
    rintro listed mm W ⟨s5, s46, s47, s48, s49, s50, s51, s52, s53, c_b4, rfl, h0, h1, h2, h3, h4, h5, h6, h7, h8, h9, hz0, HF⟩ hall
    obtain rfl := h0 (hall 0 (by decide))
    obtain rfl := h1 (hall 1 (by decide))
    obtain rfl := h2 (hall 2 (by decide))
    obtain rfl := h3 (hall 3 (by decide))
    obtain rfl := h4 (hall 4 (by decide))
    obtain rfl := h5 (hall 5 (by decide))
    obtain rfl := h6 (hall 6 (by decide))
    obtain rfl := h7 (hall 7 (by decide))
    rw [h8 (hall 8 (by decide))] at HF
    obtain rfl := h9 (hall 9 (by decide))
    clear hall h0 h1 h2 h3 h4 h5 h6 h7 h8 h9 hz0 F
    have F := HF
    clear HF
    simp only [putAll, List.set_cons_zero, List.set_cons_succ]
    go_wp2_with (first | go_skip | ((with_reducible apply fL F); exact rfl; exact rfl; (exact tL); (exact tR3)) | ((with_reducible apply fLm F); exact rfl; exact rfl; (exact tL); (exact tM3); (exact tR3)) | ((with_reducible apply fA_int F); exact rfl) | ((with_reducible apply fX_int F); exact rfl; exact rfl) | ((with_reducible apply fA_arr F); exact rfl) | ((with_reducible apply fS F); exact rfl; exact rfl; exact rfl; (exact tL); (exact tR3); (exact tS2); clear F; intro W F; simp only [List.cons_append, List.nil_append] at F) | ((with_reducible apply fB_int0); exact rfl))
    exact bodyPost_ret (res_cs rfl rfl rfl (Fr.get F tL) (rowIC _)) rfl ⟨rfl, F.below⟩
  · have hc : ¬ cmpN x.natAbs y.natAbs < 0 := by unfold cmpN; rw [if_neg hlt]; split <;> omega
    obtain ⟨c, hcc⟩ : ∃ c, cmpN x.natAbs y.natAbs = c := ⟨_, rfl⟩
    rw [hcc] at g3 hc
    have t2 : decide (c < 0) = false := decide_eq_false hc
    have hs : x.natAbs - y.natAbs = (x + y).natAbs := by
      have h1 := HX.out.2.2.2.1
      have h2 := HX.out.2.2.2.2
      cases p <;> cases q
      · exact absurd rfl hpq
      · have := of_decide_eq_false h1; have := of_decide_eq_true h2; omega
      · have := of_decide_eq_true h1; have := of_decide_eq_false h2; omega
      · exact absurd rfl hpq
    have g4 := fun w => rdiff_le HX.out.1 HX.out.2.1 (Nat.le_of_not_lt hlt) w
    rw [hs] at g4
    have g5 := fun w => rcanonZ (n := decide (x < 0)) (m := (x + y).natAbs) (x := x + y) HX.out.2.2.1 rfl (fun h => by
      rw [decide_eq_true_eq]
      have h1 := HX.out.2.2.2.1
      have h2 := HX.out.2.2.2.2
      cases p <;> cases q
      · exact absurd rfl hpq
      · have := of_decide_eq_false h1; have := of_decide_eq_true h2; omega
      · exact of_decide_eq_true h1
      · exact absurd rfl hpq) (fun h => by
      rw [decide_eq_false_iff_not]
      have h1 := HX.out.2.2.2.1
      have h2 := HX.out.2.2.2.2
      cases p <;> cases q
      · exact absurd rfl hpq
      · have := of_decide_eq_false h1; omega
      · have := of_decide_eq_true h1; have := of_decide_eq_false h2; omega
      · exact absurd rfl hpq) w
    clear hcc hc hs HX hpq hlt
    go_upto_region 9 with (first | go_skip | ((go_at_call 95); (with_reducible refine fr_call F (g3 _) ?_); (clear F; intro W F); (try dsimp only)) | ((with_reducible apply fL F); exact rfl; exact rfl; (exact tL); (exact tR3)) | ((with_reducible apply fLm F); exact rfl; exact rfl; (exact tL); (exact tM3); (exact tR3)) | ((with_reducible apply fA_int F); exact rfl) | ((with_reducible apply fX_int F); exact rfl; exact rfl) | ((with_reducible apply fA_arr F); exact rfl) | ((with_reducible apply fS F); exact rfl; exact rfl; exact rfl; (exact tL); (exact tR3); (exact tS2); clear F; intro W F; simp only [List.cons_append, List.nil_append] at F) | ((with_reducible apply fB_int0); exact rfl))
    clear c2 c3
    try simp only [Act.put, List.setIfInBounds_toArray, List.set_cons_zero, List.set_cons_succ]
    have hpl : Tryz.prog.follows .mixedOrders = true := by kernel_rfl
    refine wp_region_slots hpl [5, 46, 47, 48, 49, 50, 51, 52, 53] (fun l mm W => ∃ (s5 s46 s47 s48 s49 s50 s51 s52 s53 : Value) (c_b4 : Array Value), mm = [s5, s46, s47, s48, s49, s50, s51, s52, s53] ∧ (l.getD 0 false = true → s46 = .pointer (some ⟨b2, 0, none⟩)) ∧ (l.getD 1 false = true → s47 = .bool (decide (x < 0))) ∧ (l.getD 2 false = true → s48 = .pointer (some ⟨b2, 1, none⟩)) ∧ (l.getD 3 false = true → s49 = .agg (limA 32 ((x).natAbs))) ∧ (l.getD 4 false = true → s50 = .pointer (some ⟨b3, 1, none⟩)) ∧ (l.getD 5 false = true → s51 = .agg (limA 32 ((y).natAbs))) ∧ (l.getD 6 false = true → s52 = .agg (limA 32 (x + y).natAbs)) ∧ (l.getD 7 false = true → s53 = .agg (IC (x + y))) ∧ (l.getD 8 false = true → c_b4 = IC (x + y)) ∧ (l.getD 9 false = true → s5 = .int .i64 0) ∧ c_b4.size = (IC (x + y)).size ∧ Fr w W [(b4, c_b4, 29), (b3, IC y, 29), (b2, IC x, 29)]) (by kernel_rfl) rfl ?_ ?_ ?_
    · exact ⟨_, _, _, _, _, _, _, _, _, (intC false 0), rfl, fun h => absurd h (by decide), fun h => absurd h (by decide), fun h => absurd h (by decide), fun h => absurd h (by decide), fun h => absurd h (by decide), fun h => absurd h (by decide), fun h => absurd h (by decide), fun h => absurd h (by decide), fun h => absurd h (by decide), fun h => absurd h (by decide), by first | (focus (simp only [IC_size, intC_size, limA_size, RC_size, ratC_size]; done)) | exact rfl, F.drew⟩
    · rintro listed mm W ii hi hsz hoff ⟨s5, s46, s47, s48, s49, s50, s51, s52, s53, c_b4, rfl, h0, h1, h2, h3, h4, h5, h6, h7, h8, h9, hz0, HF⟩ hd
      have hc : ii = 0 ∨ ii = 1 ∨ ii = 2 ∨ ii = 3 ∨ ii = 4 ∨ ii = 5 ∨ ii = 6 ∨ ii = 7 ∨ ii = 8 ∨ ii = 9 := by
        have hi2 : ii < 10 := hi
        omega
      have hsz2 : listed.size = 10 := hsz
      clear hi hsz
      rcases hc with rfl | rfl | rfl | rfl | rfl | rfl | rfl | rfl | rfl | rfl
      · refine wpOp_want rfl rfl (fun K hK => ?_)
        simp only [putAll, List.set_cons_zero, List.set_cons_succ, List.getElem_toArray, List.getElem_cons_succ, List.getElem_cons_zero]
        refine ⟨?_⟩
        go_simp
        exact hK _ _ ⟨[s5, (.pointer (some ⟨b2, 0, none⟩)), s47, s48, s49, s50, s51, s52, s53], by simp only [putAll, List.set_cons_zero, List.set_cons_succ], s5, (.pointer (some ⟨b2, 0, none⟩)), s47, s48, s49, s50, s51, s52, s53, c_b4, rfl, fun _ => rfl, lk h1, lk h2, lk h3, lk h4, lk h5, lk h6, lk h7, lk h8, lk h9, hz0, HF⟩
      · have d0 := h0 (hd 0 (by kernel_rfl))
        obtain rfl := d0
        refine wpOp_want rfl rfl (fun K hK => ?_)
        simp only [putAll, List.set_cons_zero, List.set_cons_succ, List.getElem_toArray, List.getElem_cons_succ, List.getElem_cons_zero]
        have cF := BlkAt.cell (Fr.get HF (b := b2) (cs := IC x) (by (exact tL))) (intC_neg _ _)
        refine ⟨?_⟩
        go_simp
        exact hK _ _ ⟨[s5, (.pointer (some ⟨b2, 0, none⟩)), (.bool (decide (x < 0))), s48, s49, s50, s51, s52, s53], by simp only [putAll, List.set_cons_zero, List.set_cons_succ], s5, (.pointer (some ⟨b2, 0, none⟩)), (.bool (decide (x < 0))), s48, s49, s50, s51, s52, s53, c_b4, rfl, lk h0, fun _ => rfl, lk h2, lk h3, lk h4, lk h5, lk h6, lk h7, lk h8, lk h9, hz0, HF⟩
      · refine wpOp_want rfl rfl (fun K hK => ?_)
        simp only [putAll, List.set_cons_zero, List.set_cons_succ, List.getElem_toArray, List.getElem_cons_succ, List.getElem_cons_zero]
        refine ⟨?_⟩
        go_simp
        exact hK _ _ ⟨[s5, s46, s47, (.pointer (some ⟨b2, 1, none⟩)), s49, s50, s51, s52, s53], by simp only [putAll, List.set_cons_zero, List.set_cons_succ], s5, s46, s47, (.pointer (some ⟨b2, 1, none⟩)), s49, s50, s51, s52, s53, c_b4, rfl, lk h0, lk h1, fun _ => rfl, lk h3, lk h4, lk h5, lk h6, lk h7, lk h8, lk h9, hz0, HF⟩
      · have d2 := h2 (hd 2 (by kernel_rfl))
        obtain rfl := d2
        refine wpOp_want rfl rfl (fun K hK => ?_)
        simp only [putAll, List.set_cons_zero, List.set_cons_succ, List.getElem_toArray, List.getElem_cons_succ, List.getElem_cons_zero]
        with_reducible apply gLm HF
        · exact rfl
        · (exact tL)
        · exact IC_tail _
        · (first | (exact tR3))
        go_simp
        exact hK _ _ ⟨[s5, s46, s47, (.pointer (some ⟨b2, 1, none⟩)), (.agg (limA 32 ((x).natAbs))), s50, s51, s52, s53], by simp only [putAll, List.set_cons_zero, List.set_cons_succ], s5, s46, s47, (.pointer (some ⟨b2, 1, none⟩)), (.agg (limA 32 ((x).natAbs))), s50, s51, s52, s53, c_b4, rfl, lk h0, lk h1, lk h2, fun _ => rfl, lk h4, lk h5, lk h6, lk h7, lk h8, lk h9, hz0, HF⟩
      · refine wpOp_want rfl rfl (fun K hK => ?_)
        simp only [putAll, List.set_cons_zero, List.set_cons_succ, List.getElem_toArray, List.getElem_cons_succ, List.getElem_cons_zero]
        refine ⟨?_⟩
        go_simp
        exact hK _ _ ⟨[s5, s46, s47, s48, s49, (.pointer (some ⟨b3, 1, none⟩)), s51, s52, s53], by simp only [putAll, List.set_cons_zero, List.set_cons_succ], s5, s46, s47, s48, s49, (.pointer (some ⟨b3, 1, none⟩)), s51, s52, s53, c_b4, rfl, lk h0, lk h1, lk h2, lk h3, fun _ => rfl, lk h5, lk h6, lk h7, lk h8, lk h9, hz0, HF⟩
      · have d4 := h4 (hd 4 (by kernel_rfl))
        obtain rfl := d4
        refine wpOp_want rfl rfl (fun K hK => ?_)
        simp only [putAll, List.set_cons_zero, List.set_cons_succ, List.getElem_toArray, List.getElem_cons_succ, List.getElem_cons_zero]
        with_reducible apply gLm HF
        · exact rfl
        · (exact tL)
        · exact IC_tail _
        · (first | (exact tR3))
        go_simp
        exact hK _ _ ⟨[s5, s46, s47, s48, s49, (.pointer (some ⟨b3, 1, none⟩)), (.agg (limA 32 ((y).natAbs))), s52, s53], by simp only [putAll, List.set_cons_zero, List.set_cons_succ], s5, s46, s47, s48, s49, (.pointer (some ⟨b3, 1, none⟩)), (.agg (limA 32 ((y).natAbs))), s52, s53, c_b4, rfl, lk h0, lk h1, lk h2, lk h3, lk h4, fun _ => rfl, lk h6, lk h7, lk h8, lk h9, hz0, HF⟩
      · have d3 := h3 (hd 3 (by kernel_rfl))
        have d5 := h5 (hd 5 (by kernel_rfl))
        obtain rfl := d3
        obtain rfl := d5
        refine wpOp_want rfl rfl (fun K hK => ?_)
        simp only [putAll, List.set_cons_zero, List.set_cons_succ, List.getElem_toArray, List.getElem_cons_succ, List.getElem_cons_zero]
        refine ⟨?_⟩
        go_simp
        with_reducible refine fr_call HF (g4 _) ?_
        clear HF
        intro W HF
        (try dsimp only)
        exact hK _ _ ⟨[s5, s46, s47, s48, (.agg (limA 32 ((x).natAbs))), s50, (.agg (limA 32 ((y).natAbs))), (.agg (limA 32 (x + y).natAbs)), s53], by simp only [putAll, List.set_cons_zero, List.set_cons_succ], s5, s46, s47, s48, (.agg (limA 32 ((x).natAbs))), s50, (.agg (limA 32 ((y).natAbs))), (.agg (limA 32 (x + y).natAbs)), s53, c_b4, rfl, lk h0, lk h1, lk h2, lk h3, lk h4, lk h5, fun _ => rfl, lk h7, lk h8, lk h9, hz0, HF⟩
      · have d1 := h1 (hd 1 (by kernel_rfl))
        have d6 := h6 (hd 6 (by kernel_rfl))
        obtain rfl := d1
        obtain rfl := d6
        refine wpOp_want rfl rfl (fun K hK => ?_)
        simp only [putAll, List.set_cons_zero, List.set_cons_succ, List.getElem_toArray, List.getElem_cons_succ, List.getElem_cons_zero]
        refine ⟨?_⟩
        go_simp
        with_reducible refine fr_call HF (g5 _) ?_
        clear HF
        intro W HF
        (try dsimp only)
        exact hK _ _ ⟨[s5, s46, (.bool (decide (x < 0))), s48, s49, s50, s51, (.agg (limA 32 (x + y).natAbs)), (.agg (IC (x + y)))], by simp only [putAll, List.set_cons_zero, List.set_cons_succ], s5, s46, (.bool (decide (x < 0))), s48, s49, s50, s51, (.agg (limA 32 (x + y).natAbs)), (.agg (IC (x + y))), c_b4, rfl, lk h0, lk h1, lk h2, lk h3, lk h4, lk h5, lk h6, fun _ => rfl, lk h8, lk h9, hz0, HF⟩
      · have d7 := h7 (hd 7 (by kernel_rfl))
        obtain rfl := d7
        refine wpOp_want rfl rfl (fun K hK => ?_)
        simp only [putAll, List.set_cons_zero, List.set_cons_succ, List.getElem_toArray, List.getElem_cons_succ, List.getElem_cons_zero]
        with_reducible apply gS HF
        · exact rfl
        · exact rfl
        · (exact tL)
        · (first | (exact tR3))
        · first | exact hz0 | first | (focus (simp only [IC_size, intC_size, limA_size, RC_size, ratC_size]; done)) | exact rfl
        clear HF
        intro W HF
        simp only [List.cons_append, List.nil_append] at HF
        go_simp
        exact hK _ _ ⟨[s5, s46, s47, s48, s49, s50, s51, s52, (.agg (IC (x + y)))], by simp only [putAll, List.set_cons_zero, List.set_cons_succ], s5, s46, s47, s48, s49, s50, s51, s52, (.agg (IC (x + y))), (IC (x + y)), rfl, lk h0, lk h1, lk h2, lk h3, lk h4, lk h5, lk h6, lk h7, fun _ => rfl, lk h9, rfl, HF⟩
      · refine wpOp_want rfl rfl (fun K hK => ?_)
        simp only [putAll, List.set_cons_zero, List.set_cons_succ, List.getElem_toArray, List.getElem_cons_succ, List.getElem_cons_zero]
        refine ⟨?_⟩
        go_simp
        exact hK _ _ ⟨[(.int .i64 0), s46, s47, s48, s49, s50, s51, s52, s53], by simp only [putAll, List.set_cons_zero, List.set_cons_succ], (.int .i64 0), s46, s47, s48, s49, s50, s51, s52, s53, c_b4, rfl, lk h0, lk h1, lk h2, lk h3, lk h4, lk h5, lk h6, lk h7, lk h8, fun _ => rfl, hz0, HF⟩
    rintro listed mm W ⟨s5, s46, s47, s48, s49, s50, s51, s52, s53, c_b4, rfl, h0, h1, h2, h3, h4, h5, h6, h7, h8, h9, hz0, HF⟩ hall
    obtain rfl := h0 (hall 0 (by decide))
    obtain rfl := h1 (hall 1 (by decide))
    obtain rfl := h2 (hall 2 (by decide))
    obtain rfl := h3 (hall 3 (by decide))
    obtain rfl := h4 (hall 4 (by decide))
    obtain rfl := h5 (hall 5 (by decide))
    obtain rfl := h6 (hall 6 (by decide))
    obtain rfl := h7 (hall 7 (by decide))
    rw [h8 (hall 8 (by decide))] at HF
    obtain rfl := h9 (hall 9 (by decide))
    clear hall h0 h1 h2 h3 h4 h5 h6 h7 h8 h9 hz0 F
    have F := HF
    clear HF
    simp only [putAll, List.set_cons_zero, List.set_cons_succ]
    go_wp2_with (first | go_skip | ((with_reducible apply fL F); exact rfl; exact rfl; (exact tL); (exact tR3)) | ((with_reducible apply fLm F); exact rfl; exact rfl; (exact tL); (exact tM3); (exact tR3)) | ((with_reducible apply fA_int F); exact rfl) | ((with_reducible apply fX_int F); exact rfl; exact rfl) | ((with_reducible apply fA_arr F); exact rfl) | ((with_reducible apply fS F); exact rfl; exact rfl; exact rfl; (exact tL); (exact tR3); (exact tS2); clear F; intro W F; simp only [List.cons_append, List.nil_append] at F) | ((with_reducible apply fB_int0); exact rfl))
    exact bodyPost_ret (res_cs rfl rfl rfl (Fr.get F tL) (rowIC _)) rfl ⟨rfl, F.below⟩
end
section
open Go.RowKit
set_option maxHeartbeats 4000000
theorem intC_set0 (n s : Bool) (m : Nat) : (intC n m).setIfInBounds 0 (.bool s) = intC s m := by
  unfold intC
  apply Array.ext'
  simp
theorem intC_setL {n : Bool} {m i d : Nat} (hd : d < 4294967296) : (intC n m).setIfInBounds (1 + i) (.int .u32 d) = intC n (setM m i d) := by
  unfold intC
  rw [← limA_set hd]
  apply Array.ext'
  simp [Nat.add_comm 1 i]
theorem intC_limb {n : Bool} {m i : Nat} (hi : i < 32) : (intC n m)[1 + i]? = some (.int .u32 (lim m i)) := by
  unfold intC
  rw [Array.getElem?_append_right (by simp)]
  simpa using limA_at (m := m) hi
theorem setM_two {l0 l1 : Nat} (h0 : l0 < 4294967296) (h1 : l1 < 4294967296) : setM (setM 0 0 l0) 1 l1 = l0 + l1 * 4294967296 := by
  have e : setM 0 0 l0 = l0 := by simp [setM, bp]
  rw [e, setM_new (by rw [bp_one]; exact h0), bp_one]
set_option maxRecDepth 100000 in
theorem rfromZ {n : Int} (h1 : -9223372036854775808 ≤ n) (h2 : n < 9223372036854775808) (w : World) : Calls Tryz.prog 80 #[.int .i64 n] w (RetB (.agg (IC n)) w) := by
  have F := Fr.start w
  obtain ⟨a, ha⟩ : ∃ a, n.natAbs = a := ⟨_, rfl⟩
  have ha1 : a < 18446744073709551616 := by omega
  obtain ⟨l0, hl0⟩ : ∃ l, lim a 0 = l := ⟨_, rfl⟩
  obtain ⟨l1, hl1⟩ : ∃ l, lim a 1 = l := ⟨_, rfl⟩
  have hs := lim_two ha1
  have b0 := lim_lt a 0
  have b1 := lim_lt a 1
  rw [hl0] at b0 hs
  rw [hl1] at b1 hs
  have e2 : (a : Int) % 4294967296 = (l0 : Int) := by omega
  have e3 : (a : Int) / 4294967296 = (l1 : Int) := by omega
  have e4 : (l1 : Int) % 4294967296 = (l1 : Int) := by omega
  obtain ⟨s, hsg⟩ : ∃ s, decide (n < 0) = s := ⟨_, rfl⟩
  have HE := Lib.hid (show intC s (l0 + l1 * 4294967296) = IC n by unfold IC; rw [hsg, ha, ← hs])
  have HB := Lib.hid (And.intro b0 b1)
  have HK : Hid (∀ (w W : World) (b : Nat) (L : List Ent), Fr w W ((b, intC false 0, 29) :: L) → Fr w (((W.setCell ⟨b, 0, none⟩ (.bool s)).setCell ⟨b, 1, none⟩ (.int .u32 l0)).setCell ⟨b, 2, none⟩ (.int .u32 l1)) ((b, IC n, 29) :: L)) := Lib.hid (fun w W b L F => by
    have F1 := (F.cellA (A := []) 0 (.bool s)).is (intC_set0 false s 0)
    have F2 := (F1.cellA (A := []) 1 (.int .u32 l0)).is (intC_setL (i := 0) b0)
    have F3 := (F2.cellA (A := []) 2 (.int .u32 l1)).is (intC_setL (i := 1) b1)
    rw [setM_two b0 b1, HE.out] at F3
    exact F3)
  go_enter Tryz.func80, Tryz.ntmps80
  go_wp2_with (first | go_skip | ((with_reducible apply fL F); exact rfl; exact rfl; (exact tL); (exact tR3)) | ((with_reducible apply fLm F); exact rfl; exact rfl; (exact tL); (exact tM3); (exact tR3)) | ((with_reducible apply fA_int F); exact rfl) | ((with_reducible apply fS F); exact rfl; exact rfl; exact rfl; (exact tL); (exact tR3); (exact tS2); clear F; intro W F; simp only [List.cons_append, List.nil_append] at F))
  (clear F; intro b2 W F; try simp only [Act.put, List.setIfInBounds_toArray, List.set_cons_zero, List.set_cons_succ])
  by_cases hn : n < 0
  · have e1 : IntKind.u64.wrap (-IntKind.u64.wrap n) = (a : Int) := by
      rw [IntKind.wrap_u64, IntKind.wrap_u64]
      omega
    have hs : s = true := by rw [← hsg]; exact decide_eq_true hn
    subst hs
    clear ha hl0 hl1 hs hsg
    go_wp2_with (first | go_skip | ((with_reducible apply fL F); exact rfl; exact rfl; (exact tL); (exact tR3)) | ((with_reducible apply fLm F); exact rfl; exact rfl; (exact tL); (exact tM3); (exact tR3)) | ((with_reducible apply fA_int F); exact rfl) | ((with_reducible apply fS F); exact rfl; exact rfl; exact rfl; (exact tL); (exact tR3); (exact tS2); clear F; intro W F; simp only [List.cons_append, List.nil_append] at F))
    (clear F; intro b4 W F; try simp only [Act.put, List.setIfInBounds_toArray, List.set_cons_zero, List.set_cons_succ])
    have c0 := (F.get Lies.here).cell (intC_neg false 0)
    have c1 := (F.get Lies.here).cell (intC_limb (n := false) (m := 0) (i := 0) (by decide))
    have c2 := (F.get Lies.here).cell (intC_limb (n := false) (m := 0) (i := 1) (by decide))
    have f0 := BlkAt.fz (F.get Lies.here) 0
    have f1 := BlkAt.fz (F.get Lies.here) 1
    have f2 := BlkAt.fz (F.get Lies.here) 2
    have FN := Lib.hid (HK.out _ _ _ _ F)
    go_upto_region 7 with fail
    clear F c0 c1 c2 f0 f1 f2
    have F := FN.out
    clear FN
    generalize World.setCell _ _ _ = W7 at *
    go_wp2_with (first | go_skip | ((with_reducible apply fL F); exact rfl; exact rfl; (exact tL); (exact tR3)) | ((with_reducible apply fLm F); exact rfl; exact rfl; (exact tL); (exact tM3); (exact tR3)) | ((with_reducible apply fA_int F); exact rfl) | ((with_reducible apply fS F); exact rfl; exact rfl; exact rfl; (exact tL); (exact tR3); (exact tS2); clear F; intro W F; simp only [List.cons_append, List.nil_append] at F))
    exact bodyPost_ret (res_c rfl rfl (Fr.get F tL) (rowIC _)) rfl ⟨rfl, F.below⟩
  · have hdc : decide (n < 0) = false := decide_eq_false hn
    have hs : s = false := by rw [← hsg]; exact hdc
    have e5 : n % 4294967296 = (l0 : Int) := by omega
    have e6 : n / 4294967296 = (l1 : Int) := by omega
    subst hs
    clear ha hl0 hl1 hs hsg e2 e3
    go_wp2_with (first | go_skip | ((with_reducible apply fL F); exact rfl; exact rfl; (exact tL); (exact tR3)) | ((with_reducible apply fLm F); exact rfl; exact rfl; (exact tL); (exact tM3); (exact tR3)) | ((with_reducible apply fA_int F); exact rfl) | ((with_reducible apply fS F); exact rfl; exact rfl; exact rfl; (exact tL); (exact tR3); (exact tS2); clear F; intro W F; simp only [List.cons_append, List.nil_append] at F))
    (clear F; intro b4 W F; try simp only [Act.put, List.setIfInBounds_toArray, List.set_cons_zero, List.set_cons_succ])
    have c0 := (F.get Lies.here).cell (intC_neg false 0)
    have c1 := (F.get Lies.here).cell (intC_limb (n := false) (m := 0) (i := 0) (by decide))
    have c2 := (F.get Lies.here).cell (intC_limb (n := false) (m := 0) (i := 1) (by decide))
    have f0 := BlkAt.fz (F.get Lies.here) 0
    have f1 := BlkAt.fz (F.get Lies.here) 1
    have f2 := BlkAt.fz (F.get Lies.here) 2
    have FN := Lib.hid (HK.out _ _ _ _ F)
    go_upto_region 7 with fail
    clear F c0 c1 c2 f0 f1 f2
    have F := FN.out
    clear FN
    generalize World.setCell _ _ _ = W7 at *
    go_wp2_with (first | go_skip | ((with_reducible apply fL F); exact rfl; exact rfl; (exact tL); (exact tR3)) | ((with_reducible apply fLm F); exact rfl; exact rfl; (exact tL); (exact tM3); (exact tR3)) | ((with_reducible apply fA_int F); exact rfl) | ((with_reducible apply fS F); exact rfl; exact rfl; exact rfl; (exact tL); (exact tR3); (exact tS2); clear F; intro W F; simp only [List.cons_append, List.nil_append] at F))
    exact bodyPost_ret (res_c rfl rfl (Fr.get F tL) (rowIC _)) rfl ⟨rfl, F.below⟩
end
section
open Go.RowKit
set_option maxHeartbeats 4000000
section
variable {a : Act} {w W : World} {Q : Exit → Act → World → Prop} {F : List Ent} {ops : Array Oper} {rest : List Oper} {dst : Option Tmp} {ty : TypeId} {pos : String} {af : Array Edge} {gd : Option (Nat × Bool)}
theorem alloc_dbl {o : Oper} (ho : o.op = .alloc 144) : (execOp a.eval o).run Tryz.prog W = .ok (.value (.pointer (some ⟨W.heap.size, 0, none⟩))) (W.alloc (.cells (limA 64 0) 144)) := by
  obtain ⟨dst, op, pos, af, g, x⟩ := o
  subst ho
  rw [big64Z]
  go_simp
theorem fA_dbl (h : Fr w W F) (hw : Region.wanted ⟨dst, .alloc 144, ty, pos, af, gd⟩ (yielded ops a.tmps) = true) (hk : Hold (∀ b W', Fr w W' ((b, limA 64 0, 144) :: F) → wpList Tryz.prog ops Q rest (a.put dst (.pointer (some ⟨b, 0, none⟩))) W')) : wpList Tryz.prog ops Q (⟨dst, .alloc 144, ty, pos, af, gd⟩ :: rest) a W := wplF_alloc h hw (alloc_dbl rfl) hk
end
set_option maxRecDepth 100000 in
theorem rmul_any {p q : Bool} {a b : Nat} (la : a < bp 32) (lb : b < bp 32) (hm : a * b < bp 32) {s : Bool} {t : Nat} (hc : ∀ w, Calls Tryz.prog 129 #[.bool (p != q), .agg (limA 32 (a * b))] w (RetB (.agg (intC s t)) w)) (w : World) : Calls Tryz.prog 96 #[.agg (intC p a), .agg (intC q b)] w (RetB (.tuple #[.agg (intC s t), .int .i64 0]) w) := by
  have F := Fr.start w
  obtain ⟨n, hn, hun⟩ := used_ex a la
  obtain ⟨m, hm32, hum⟩ := used_ex b lb
  have g1 := fun w => rlimbs_any la hun w
  have g2 := fun w => rlimbs_any lb hum w
  have HL := Lib.hid (And.intro hun.1 hum.1)
  have HM := Lib.hid hm
  rw [show (p != q) = (!(p == q)) from rfl] at hc
  clear la lb hun hum hm
  go_enter Tryz.func96, Tryz.ntmps96
  go_wp2_with (first | go_skip | ((with_reducible apply fL F); exact rfl; exact rfl; (exact tL); (exact tR3)) | ((with_reducible apply fLm F); exact rfl; exact rfl; (exact tL); (exact tM3); (exact tR3)) | ((with_reducible apply fA_int F); exact rfl) | ((with_reducible apply fX_int F); exact rfl; exact rfl) | ((with_reducible apply fA_arr F); exact rfl) | ((with_reducible apply fS F); exact rfl; exact rfl; exact rfl; (exact tL); (exact tR3); (exact tS2); clear F; intro W F; simp only [List.cons_append, List.nil_append] at F) | ((with_reducible apply fB_int0); exact rfl))
  (clear F; intro b2 W F; try simp only [Act.put, List.setIfInBounds_toArray, List.set_cons_zero, List.set_cons_succ])
  go_wp2_with (first | go_skip | ((with_reducible apply fL F); exact rfl; exact rfl; (exact tL); (exact tR3)) | ((with_reducible apply fLm F); exact rfl; exact rfl; (exact tL); (exact tM3); (exact tR3)) | ((with_reducible apply fA_int F); exact rfl) | ((with_reducible apply fX_int F); exact rfl; exact rfl) | ((with_reducible apply fA_arr F); exact rfl) | ((with_reducible apply fS F); exact rfl; exact rfl; exact rfl; (exact tL); (exact tR3); (exact tS2); clear F; intro W F; simp only [List.cons_append, List.nil_append] at F) | ((with_reducible apply fB_int0); exact rfl))
  (clear F; intro b3 W F; try simp only [Act.put, List.setIfInBounds_toArray, List.set_cons_zero, List.set_cons_succ])
  go_wp2_with (first | go_skip | ((with_reducible apply fL F); exact rfl; exact rfl; (exact tL); (exact tR3)) | ((with_reducible apply fLm F); exact rfl; exact rfl; (exact tL); (exact tM3); (exact tR3)) | ((with_reducible apply fA_int F); exact rfl) | ((with_reducible apply fX_int F); exact rfl; exact rfl) | ((with_reducible apply fA_arr F); exact rfl) | ((with_reducible apply fS F); exact rfl; exact rfl; exact rfl; (exact tL); (exact tR3); (exact tS2); clear F; intro W F; simp only [List.cons_append, List.nil_append] at F) | ((with_reducible apply fB_int0); exact rfl))
  (clear F; intro b4 W F; try simp only [Act.put, List.setIfInBounds_toArray, List.set_cons_zero, List.set_cons_succ])
  go_wp2_with (first | go_skip | ((with_reducible apply fA_dbl F); exact rfl) | ((with_reducible apply fL F); exact rfl; exact rfl; (exact tL); (exact tR3)) | ((with_reducible apply fLm F); exact rfl; exact rfl; (exact tL); (exact tM3); (exact tR3)) | ((with_reducible apply fA_int F); exact rfl) | ((with_reducible apply fX_int F); exact rfl; exact rfl) | ((with_reducible apply fA_arr F); exact rfl) | ((with_reducible apply fS F); exact rfl; exact rfl; exact rfl; (exact tL); (exact tR3); (exact tS2); clear F; intro W F; simp only [List.cons_append, List.nil_append] at F) | ((with_reducible apply fB_int0); exact rfl))
  (clear F; intro b6 W F; try simp only [Act.put, List.setIfInBounds_toArray, List.set_cons_zero, List.set_cons_succ])
  go_wp2_with (first | go_skip | ((with_reducible apply fL F); exact rfl; exact rfl; (exact tL); (exact tR3)) | ((with_reducible apply fLm F); exact rfl; exact rfl; (exact tL); (exact tM3); (exact tR3)) | ((with_reducible apply fA_int F); exact rfl) | ((with_reducible apply fX_int F); exact rfl; exact rfl) | ((with_reducible apply fA_arr F); exact rfl) | ((with_reducible apply fS F); exact rfl; exact rfl; exact rfl; (exact tL); (exact tR3); (exact tS2); clear F; intro W F; simp only [List.cons_append, List.nil_append] at F) | ((with_reducible apply fB_int0); exact rfl))
  try simp only [Act.put, List.setIfInBounds_toArray, List.set_cons_zero, List.set_cons_succ]
  have hpl : Tryz.prog.follows .mixedOrders = true := by kernel_rfl
  refine wp_region_slots hpl [7, 8, 15, 16, 17, 18, 19, 20] (fun l mm W => ∃ (s7 s8 s15 s16 s17 s18 s19 s20 : Value), mm = [s7, s8, s15, s16, s17, s18, s19, s20] ∧ (l.getD 0 false = true → s15 = .pointer (some ⟨b2, 1, none⟩)) ∧ (l.getD 1 false = true → s16 = .agg (limA 32 a)) ∧ (l.getD 2 false = true → s17 = .int .i64 n) ∧ (l.getD 3 false = true → s18 = .pointer (some ⟨b3, 1, none⟩)) ∧ (l.getD 4 false = true → s19 = .agg (limA 32 b)) ∧ (l.getD 5 false = true → s20 = .int .i64 m) ∧ (l.getD 6 false = true → s7 = .int .i64 n) ∧ (l.getD 7 false = true → s8 = .int .i64 m) ∧ Fr w W [(b6, limA 64 0, 144), (b4, intC false 0, 29), (b3, intC q b, 29), (b2, intC p a, 29)]) (by kernel_rfl) rfl ?_ ?_ ?_
  · exact ⟨_, _, _, _, _, _, _, _, rfl, fun h => absurd h (by decide), fun h => absurd h (by decide), fun h => absurd h (by decide), fun h => absurd h (by decide), fun h => absurd h (by decide), fun h => absurd h (by decide), fun h => absurd h (by decide), fun h => absurd h (by decide), F.drew⟩
  · rintro listed mm W ii hi hsz hoff ⟨s7, s8, s15, s16, s17, s18, s19, s20, rfl, h0, h1, h2, h3, h4, h5, h6, h7, HF⟩ hd
    have hc : ii = 0 ∨ ii = 1 ∨ ii = 2 ∨ ii = 3 ∨ ii = 4 ∨ ii = 5 ∨ ii = 6 ∨ ii = 7 := by
      have hi2 : ii < 8 := hi
      omega
    have hsz2 : listed.size = 8 := hsz
    clear hi hsz
    rcases hc with rfl | rfl | rfl | rfl | rfl | rfl | rfl | rfl
    · refine wpOp_want rfl rfl (fun K hK => ?_)
      simp only [putAll, List.set_cons_zero, List.set_cons_succ, List.getElem_toArray, List.getElem_cons_succ, List.getElem_cons_zero]
      refine ⟨?_⟩
      go_simp
      exact hK _ _ ⟨[s7, s8, (.pointer (some ⟨b2, 1, none⟩)), s16, s17, s18, s19, s20], by simp only [putAll, List.set_cons_zero, List.set_cons_succ], s7, s8, (.pointer (some ⟨b2, 1, none⟩)), s16, s17, s18, s19, s20, rfl, fun _ => rfl, lk h1, lk h2, lk h3, lk h4, lk h5, lk h6, lk h7, HF⟩
    · have d0 := h0 (hd 0 (by kernel_rfl))
      obtain rfl := d0
      refine wpOp_want rfl rfl (fun K hK => ?_)
      simp only [putAll, List.set_cons_zero, List.set_cons_succ, List.getElem_toArray, List.getElem_cons_succ, List.getElem_cons_zero]
      with_reducible apply gLm HF
      · exact rfl
      · (exact tL)
      · exact intC_tail _ _
      · (first | (exact tR3))
      go_simp
      exact hK _ _ ⟨[s7, s8, (.pointer (some ⟨b2, 1, none⟩)), (.agg (limA 32 a)), s17, s18, s19, s20], by simp only [putAll, List.set_cons_zero, List.set_cons_succ], s7, s8, (.pointer (some ⟨b2, 1, none⟩)), (.agg (limA 32 a)), s17, s18, s19, s20, rfl, lk h0, fun _ => rfl, lk h2, lk h3, lk h4, lk h5, lk h6, lk h7, HF⟩
    · have d1 := h1 (hd 1 (by kernel_rfl))
      obtain rfl := d1
      refine wpOp_want rfl rfl (fun K hK => ?_)
      simp only [putAll, List.set_cons_zero, List.set_cons_succ, List.getElem_toArray, List.getElem_cons_succ, List.getElem_cons_zero]
      refine ⟨?_⟩
      go_simp
      with_reducible refine fr_call HF (g1 _) ?_
      clear HF
      intro W HF
      (try dsimp only)
      exact hK _ _ ⟨[s7, s8, s15, (.agg (limA 32 a)), (.int .i64 n), s18, s19, s20], by simp only [putAll, List.set_cons_zero, List.set_cons_succ], s7, s8, s15, (.agg (limA 32 a)), (.int .i64 n), s18, s19, s20, rfl, lk h0, lk h1, fun _ => rfl, lk h3, lk h4, lk h5, lk h6, lk h7, HF⟩
    · refine wpOp_want rfl rfl (fun K hK => ?_)
      simp only [putAll, List.set_cons_zero, List.set_cons_succ, List.getElem_toArray, List.getElem_cons_succ, List.getElem_cons_zero]
      refine ⟨?_⟩
      go_simp
      exact hK _ _ ⟨[s7, s8, s15, s16, s17, (.pointer (some ⟨b3, 1, none⟩)), s19, s20], by simp only [putAll, List.set_cons_zero, List.set_cons_succ], s7, s8, s15, s16, s17, (.pointer (some ⟨b3, 1, none⟩)), s19, s20, rfl, lk h0, lk h1, lk h2, fun _ => rfl, lk h4, lk h5, lk h6, lk h7, HF⟩
    · have d3 := h3 (hd 3 (by kernel_rfl))
      obtain rfl := d3
      refine wpOp_want rfl rfl (fun K hK => ?_)
      simp only [putAll, List.set_cons_zero, List.set_cons_succ, List.getElem_toArray, List.getElem_cons_succ, List.getElem_cons_zero]
      with_reducible apply gLm HF
      · exact rfl
      · (exact tL)
      · exact intC_tail _ _
      · (first | (exact tR3))
      go_simp
      exact hK _ _ ⟨[s7, s8, s15, s16, s17, (.pointer (some ⟨b3, 1, none⟩)), (.agg (limA 32 b)), s20], by simp only [putAll, List.set_cons_zero, List.set_cons_succ], s7, s8, s15, s16, s17, (.pointer (some ⟨b3, 1, none⟩)), (.agg (limA 32 b)), s20, rfl, lk h0, lk h1, lk h2, lk h3, fun _ => rfl, lk h5, lk h6, lk h7, HF⟩
    · have d4 := h4 (hd 4 (by kernel_rfl))
      obtain rfl := d4
      refine wpOp_want rfl rfl (fun K hK => ?_)
      simp only [putAll, List.set_cons_zero, List.set_cons_succ, List.getElem_toArray, List.getElem_cons_succ, List.getElem_cons_zero]
      refine ⟨?_⟩
      go_simp
      with_reducible refine fr_call HF (g2 _) ?_
      clear HF
      intro W HF
      (try dsimp only)
      exact hK _ _ ⟨[s7, s8, s15, s16, s17, s18, (.agg (limA 32 b)), (.int .i64 m)], by simp only [putAll, List.set_cons_zero, List.set_cons_succ], s7, s8, s15, s16, s17, s18, (.agg (limA 32 b)), (.int .i64 m), rfl, lk h0, lk h1, lk h2, lk h3, lk h4, fun _ => rfl, lk h6, lk h7, HF⟩
    · have d2 := h2 (hd 2 (by kernel_rfl))
      obtain rfl := d2
      refine wpOp_want rfl rfl (fun K hK => ?_)
      simp only [putAll, List.set_cons_zero, List.set_cons_succ, List.getElem_toArray, List.getElem_cons_succ, List.getElem_cons_zero]
      refine ⟨?_⟩
      go_simp
      exact hK _ _ ⟨[(.int .i64 n), s8, s15, s16, (.int .i64 n), s18, s19, s20], by simp only [putAll, List.set_cons_zero, List.set_cons_succ], (.int .i64 n), s8, s15, s16, (.int .i64 n), s18, s19, s20, rfl, lk h0, lk h1, lk h2, lk h3, lk h4, lk h5, fun _ => rfl, lk h7, HF⟩
    · have d5 := h5 (hd 5 (by kernel_rfl))
      obtain rfl := d5
      refine wpOp_want rfl rfl (fun K hK => ?_)
      simp only [putAll, List.set_cons_zero, List.set_cons_succ, List.getElem_toArray, List.getElem_cons_succ, List.getElem_cons_zero]
      refine ⟨?_⟩
      go_simp
      exact hK _ _ ⟨[s7, (.int .i64 m), s15, s16, s17, s18, s19, (.int .i64 m)], by simp only [putAll, List.set_cons_zero, List.set_cons_succ], s7, (.int .i64 m), s15, s16, s17, s18, s19, (.int .i64 m), rfl, lk h0, lk h1, lk h2, lk h3, lk h4, lk h5, lk h6, fun _ => rfl, HF⟩
  rintro listed mm W ⟨s7, s8, s15, s16, s17, s18, s19, s20, rfl, h0, h1, h2, h3, h4, h5, h6, h7, HF⟩ hall
  obtain rfl := h0 (hall 0 (by decide))
  obtain rfl := h1 (hall 1 (by decide))
  obtain rfl := h2 (hall 2 (by decide))
  obtain rfl := h3 (hall 3 (by decide))
  obtain rfl := h4 (hall 4 (by decide))
  obtain rfl := h5 (hall 5 (by decide))
  obtain rfl := h6 (hall 6 (by decide))
  obtain rfl := h7 (hall 7 (by decide))
  clear hall h0 h1 h2 h3 h4 h5 h6 h7 F
  have F := HF
  clear HF
  simp only [putAll, List.set_cons_zero, List.set_cons_succ]
  clear g1 g2
  go_wp2_with fail
  go_loopw [9] (fun iv wr => ∃ i : Nat, i ≤ n ∧ iv = .int .i64 i ∧ Fr w wr [(b6, limA 64 ((a % bp i) * b), 144), (b4, intC false 0, 29), (b3, intC q b, 29), (b2, intC p a, 29)]) (fun iv _ => n - (intOf iv).toNat)
  case atStart => exact ⟨0, by omega, rfl, by rw [bp_zero, Nat.mod_one, Nat.zero_mul]; exact F⟩
  case round =>
    clear F
    obtain ⟨i, hi, rfl, F⟩ := hrel
    by_cases hin : i < n
    · have hc0 : (a % bp i) * b < bp (i + m) := by
        rw [bp_add]
        exact Nat.lt_of_le_of_lt (Nat.mul_le_mul_right b (Nat.le_of_lt (Nat.mod_lt a (bp_pos i)))) (Nat.mul_lt_mul_of_pos_left HL.out.2 (bp_pos i))
      have HC0 := Lib.hid hc0
      clear hc0
      go_wp2_with fail
      go_loopw [10, 11] (fun qv jv wr => ∃ j k c : Nat, j ≤ m ∧ k < 4294967296 ∧ qv = .int .u64 k ∧ jv = .int .i64 j ∧ c < bp (i + m) ∧ c + k * bp (i + j) = (a % bp i) * b + lim a i * (b % bp j) * bp i ∧ Fr w wr [(b6, limA 64 c, 144), (b4, intC false 0, 29), (b3, intC q b, 29), (b2, intC p a, 29)]) (fun _ jv _ => m - (intOf jv).toNat)
      case atStart => exact ⟨0, 0, (a % bp i) * b, by omega, by omega, rfl, rfl, HC0.out, by rw [bp_zero, Nat.mod_one]; omega, F⟩
      case round =>
        clear F HC0
        obtain ⟨j, k, c, hj, hk, rfl, rfl, hcl, hrl, F⟩ := hrel
        have HC := Lib.hid (And.intro hcl hrl)
        clear hcl hrl
        by_cases hjm : j < m
        · obtain ⟨x, hx⟩ : ∃ x, lim a i = x := ⟨_, rfl⟩
          obtain ⟨y, hy⟩ : ∃ y, lim b j = y := ⟨_, rfl⟩
          obtain ⟨z, hz⟩ : ∃ z, lim c (i + j) = z := ⟨_, rfl⟩
          obtain ⟨ij, hij⟩ : ∃ ij, i + j = ij := ⟨_, rfl⟩
          have hx1 := lim_lt a i
          have hy1 := lim_lt b j
          have hz1 := lim_lt c (i + j)
          have hst := times_step HC.out.2
          have hlt := times_lt hx1 hy1 hz1 hk
          rw [hx, hy, hz] at hst hlt
          rw [hx] at hx1
          rw [hy] at hy1
          rw [hz] at hz1
          obtain ⟨p1, hp1⟩ : ∃ p, x * y = p := ⟨_, rfl⟩
          obtain ⟨p2, hp2⟩ : ∃ p, p1 + z = p := ⟨_, rfl⟩
          obtain ⟨t, ht⟩ : ∃ t, p2 + k = t := ⟨_, rfl⟩
          rw [hp1, hp2, ht] at hst hlt
          obtain ⟨d, hd⟩ : ∃ d, t % 4294967296 = d := ⟨_, rfl⟩
          obtain ⟨q', hq'⟩ : ∃ q', t / 4294967296 = q' := ⟨_, rfl⟩
          rw [hd, hq', hij] at hst
          have hd1 : d < 4294967296 := by omega
          have hq1 : q' < 4294967296 := by omega
          have c1 := (F.get (b := b2) tL).cell (intC_limb (n := p) (m := a) (show i < 32 by omega))
          have c2 := (F.get (b := b3) tL).cell (intC_limb (n := q) (m := b) (show j < 32 by omega))
          have c3 := (F.get (b := b6) tL).cell (limA_at (n := 64) (m := c) (show ij < 64 by omega))
          rw [hx] at c1
          rw [hy] at c2
          rw [← hij, hz, hij] at c3
          have m0 : IntKind.i64.wrap ((i : Int) + (j : Int)) = (ij : Int) := by rw [show (i : Int) + (j : Int) = (ij : Int) by omega]; exact IntWalk.i64_in _ (by omega)
          have m00 : (i : Int) + (j : Int) = (ij : Int) := by omega
          have e1 : IntKind.u64.wrap (x : Int) = (x : Int) := wrap64 (by omega)
          have e2 : IntKind.u64.wrap (y : Int) = (y : Int) := wrap64 (by omega)
          have e3 : IntKind.u64.wrap (z : Int) = (z : Int) := wrap64 (by omega)
          have m1 : IntKind.u64.wrap ((x : Int) * (y : Int)) = (p1 : Int) := by
            rw [show (x : Int) * (y : Int) = ((p1 : Nat) : Int) by rw [← hp1]; push_cast; rfl]
            exact wrap64 (by omega)
          have m2 : IntKind.u64.wrap ((p1 : Int) + (z : Int)) = (p2 : Int) := by
            rw [show (p1 : Int) + (z : Int) = ((p2 : Nat) : Int) by omega]
            exact wrap64 (by omega)
          have m3 : IntKind.u64.wrap ((p2 : Int) + (k : Int)) = (t : Int) := by
            rw [show (p2 : Int) + (k : Int) = ((t : Nat) : Int) by omega]
            exact wrap64 (by omega)
          have m4 : (t : Int) % 4294967296 = (d : Int) := by omega
          have m5 : (t : Int) / 4294967296 = (q' : Int) := by omega
          have i0 : (0 : Int) ≤ (i : Int) := by omega
          have i1 : (i : Int) < 32 := by omega
          have j0 : (0 : Int) ≤ (j : Int) := by omega
          have j1 : (j : Int) < 32 := by omega
          have ij0 : (0 : Int) ≤ (ij : Int) := by omega
          have ij1 : (ij : Int) < 64 := by omega
          have ij64 : ij < 64 := by omega
          have HN := Lib.hid (show setM c ij d < bp (i + m) ∧ setM c ij d + q' * bp (i + (j + 1)) = (a % bp i) * b + lim a i * (b % bp (j + 1)) * bp i from ⟨setM_lt HC.out.1 (by omega) hd1, by rw [hx]; exact hst⟩)
          clear hx hy hz hij hst hlt hp1 hp2 ht hd hq' hx1 hy1 hz1
          go_wp2_with fail
          go_quiet (fail)
          replace F := F.drewN nq
          generalize wr.drewN nq = wq at *
          have cst := (F.get (b := b6) tL).cell (limA_at (n := 64) (m := c) ij64)
          have fst := BlkAt.fz (F.get (b := b6) tL) ij
          have HWS := Lib.hid ((F.cellA (A := []) ij (.int .u32 d)).is (limA_set hd1))
          clear F c1 c2 c3
          go_wp2_with fail
          go_roundw
          case rel => exact ⟨j + 1, q', setM c ij d, by omega, hq1, rfl, by go_num, HN.out.1, HN.out.2, HWS.out⟩
          case measure => simp [intOf]; omega
        · obtain rfl : j = m := by omega
          obtain ⟨ij, hij⟩ : ∃ ij, i + j = ij := ⟨_, rfl⟩
          obtain ⟨hr1, hr2⟩ := times_row HL.out.2 HC.out.1 hk HC.out.2
          rw [hij] at hr1 hr2
          have m0 : IntKind.i64.wrap ((i : Int) + (j : Int)) = (ij : Int) := by rw [show (i : Int) + (j : Int) = (ij : Int) by omega]; exact IntWalk.i64_in _ (by omega)
          have m00 : (i : Int) + (j : Int) = (ij : Int) := by omega
          have m4 : (k : Int) % 4294967296 = (k : Int) := by omega
          have ij0 : (0 : Int) ≤ (ij : Int) := by omega
          have ij1 : (ij : Int) < 64 := by omega
          have cst := (F.get (b := b6) tL).cell (limA_at (n := 64) (m := c) (show ij < 64 by omega))
          have fst := BlkAt.fz (F.get (b := b6) tL) ij
          have HWS := Lib.hid ((F.cellA (A := []) ij (.int .u32 k)).is (limA_set hk))
          have HRS := Lib.hid hr1
          clear hr1 hr2 hij HC F
          go_wp2_with fail
          go_roundw
          case rel => exact ⟨i + 1, by omega, by go_num, by rw [← HRS.out]; exact HWS.out⟩
          case measure => simp [intOf]; omega
    · obtain rfl : i = n := by omega
      rw [Nat.mod_eq_of_lt HL.out.1] at F
      obtain ⟨c, hcc⟩ : ∃ c, a * b = c := ⟨_, rfl⟩
      rw [hcc] at F HM hc
      clear hcc HL hi hin
      go_wp2_with (first | go_skip | ((with_reducible apply fL F); exact rfl; exact rfl; (exact tL); (exact tR3)) | ((with_reducible apply fLm F); exact rfl; exact rfl; (exact tL); (exact tM3); (exact tR3)) | ((with_reducible apply fA_int F); exact rfl) | ((with_reducible apply fX_int F); exact rfl; exact rfl) | ((with_reducible apply fA_arr F); exact rfl) | ((with_reducible apply fS F); exact rfl; exact rfl; exact rfl; (exact tL); (exact tR3); (exact tS2); clear F; intro W F; simp only [List.cons_append, List.nil_append] at F) | ((with_reducible apply fB_int0); exact rfl))
      (clear F; intro b13 W F; try simp only [Act.put, List.setIfInBounds_toArray, List.set_cons_zero, List.set_cons_succ])
      go_wp2_with fail
      go_loopw [14] (fun iv wr => ∃ i : Nat, i ≤ 32 ∧ iv = .int .i64 i ∧ Fr w wr [(b13, limA 32 (c % bp i), 27), (b6, limA 64 c, 144), (b4, intC false 0, 29), (b3, intC q b, 29), (b2, intC p a, 29)]) (fun iv _ => 32 - (intOf iv).toNat)
      case atStart => exact ⟨0, by omega, rfl, by rw [bp_zero, Nat.mod_one]; exact F⟩
      case round =>
        clear F
        obtain ⟨e, he, rfl, F⟩ := hrel
        by_cases hlt : e < 32
        · obtain ⟨h, hh⟩ : ∃ h, 32 + e = h := ⟨_, rfl⟩
          have c1 := (F.get (b := b6) tL).cell (limA_at (n := 64) (m := c) (show h < 64 by omega))
          rw [lim_ge HM.out (show 32 ≤ h by omega)] at c1
          have c2 := (F.get (b := b6) tL).cell (limA_at (n := 64) (m := c) (show e < 64 by omega))
          have c3 := (F.get (b := b13) tL).cell (limA_at (n := 32) (m := c % bp e) hlt)
          have f3 := BlkAt.fz (F.get (b := b13) tL) e
          have hz1 := lim_lt c e
          obtain ⟨z, hz⟩ : ∃ z, lim c e = z := ⟨_, rfl⟩
          rw [hz] at c2 hz1
          have hstep : setM (c % bp e) e z = c % bp (e + 1) := by
            rw [setM_new (Nat.mod_lt _ (bp_pos e)), mod_succ, hz]
          have HN := (F.cellA (A := []) e (.int .u32 z)).is (limA_set hz1)
          rw [hstep] at HN
          have HN := Lib.hid HN
          have m0 : IntKind.i64.wrap (32 + (e : Int)) = (h : Int) := by rw [show 32 + (e : Int) = (h : Int) by omega]; exact IntWalk.i64_in _ (by omega)
          have m00 : 32 + (e : Int) = (h : Int) := by omega
          obtain ⟨we1, we2, we3⟩ : RowKit.wrap64 (h : Int) = (h : Int) ∧ True ∧ True := ⟨by rw [RowKit.wrap64]; omega, trivial, trivial⟩
          have i0 : (0 : Int) ≤ (e : Int) := by omega
          have i1 : (e : Int) < 32 := by omega
          have i64 : (e : Int) < 64 := by omega
          have h0 : (0 : Int) ≤ (h : Int) := by omega
          have h1 : (h : Int) < 64 := by omega
          clear hh hz hstep F
          go_wp2_with fail
          go_roundw
          case rel => exact ⟨e + 1, by omega, by go_num, HN.out⟩
          case measure => simp [intOf]; omega
        · obtain rfl : e = 32 := by omega
          rw [Nat.mod_eq_of_lt HM.out] at F
          have c1 := (F.get (b := b2) tL).cell (intC_neg p a)
          have c2 := (F.get (b := b3) tL).cell (intC_neg q b)
          clear hlt he
          go_wp2_with (first | go_skip | ((go_at_call 129); (with_reducible refine fr_call F (hc _) ?_); (clear F; intro W F); (try dsimp only)) | ((with_reducible apply fL F); exact rfl; exact rfl; (exact tL); (exact tR3)) | ((with_reducible apply fLm F); exact rfl; exact rfl; (exact tL); (exact tM3); (exact tR3)) | ((with_reducible apply fA_int F); exact rfl) | ((with_reducible apply fX_int F); exact rfl; exact rfl) | ((with_reducible apply fA_arr F); exact rfl) | ((with_reducible apply fS F); exact rfl; exact rfl; exact rfl; (exact tL); (exact tR3); (exact tS2); clear F; intro W F; simp only [List.cons_append, List.nil_append] at F) | ((with_reducible apply fB_int0); exact rfl))
          exact bodyPost_ret (res_cs rfl rfl rfl (Fr.get F tL) (rowInt _ _)) rfl ⟨rfl, F.below⟩
theorem rmulZ {x y : Int} (hx : x.natAbs < bp 32) (hy : y.natAbs < bp 32) (h : (x * y).natAbs < bp 32) (w : World) : Calls Tryz.prog 96 #[.agg (IC x), .agg (IC y)] w (RetB (.tuple #[.agg (IC (x * y)), .int .i64 0]) w) := by
  have hm : x.natAbs * y.natAbs < bp 32 := by rw [← Int.natAbs_mul]; exact h
  refine rmul_any hx hy hm (fun w => rcanonZ hm (Int.natAbs_mul x y).symm ?_ ?_ w) w
  · intro h1
    rcases Int.lt_trichotomy x 0 with hx0 | hx0 | hx0 <;> rcases Int.lt_trichotomy y 0 with hy0 | hy0 | hy0
    · exact absurd h1 (by have := Int.mul_pos_of_neg_of_neg hx0 hy0; omega)
    · rw [hy0, Int.mul_zero] at h1; exact absurd h1 (by decide)
    · simp [hx0, Int.not_lt.2 (Int.le_of_lt hy0)]
    · rw [hx0, Int.zero_mul] at h1; exact absurd h1 (by decide)
    · rw [hx0, Int.zero_mul] at h1; exact absurd h1 (by decide)
    · rw [hx0, Int.zero_mul] at h1; exact absurd h1 (by decide)
    · simp [hy0, Int.not_lt.2 (Int.le_of_lt hx0)]
    · rw [hy0, Int.mul_zero] at h1; exact absurd h1 (by decide)
    · exact absurd h1 (by have := Int.mul_pos hx0 hy0; omega)
  · intro h1
    rcases Int.lt_trichotomy x 0 with hx0 | hx0 | hx0 <;> rcases Int.lt_trichotomy y 0 with hy0 | hy0 | hy0
    · simp [hx0, hy0]
    · rw [hy0, Int.mul_zero] at h1; exact absurd h1 (by decide)
    · exact absurd h1 (by have := Int.mul_neg_of_neg_of_pos hx0 hy0; omega)
    · rw [hx0, Int.zero_mul] at h1; exact absurd h1 (by decide)
    · rw [hx0, Int.zero_mul] at h1; exact absurd h1 (by decide)
    · rw [hx0, Int.zero_mul] at h1; exact absurd h1 (by decide)
    · exact absurd h1 (by have := Int.mul_neg_of_pos_of_neg hx0 hy0; omega)
    · rw [hy0, Int.mul_zero] at h1; exact absurd h1 (by decide)
    · simp [Int.not_lt.2 (Int.le_of_lt hx0), Int.not_lt.2 (Int.le_of_lt hy0)]
end
section
open Go.RowKit
set_option maxHeartbeats 4000000
theorem used_two {m n : Nat} (h : Used m n) : n ≤ 2 ↔ m < 18446744073709551616 := by
  have e : bp 2 = 18446744073709551616 := by unfold bp; rfl
  rw [← e]
  constructor
  · intro h2
    exact Nat.lt_of_lt_of_le h.1 (bp_le h2)
  · intro h2
    rcases Nat.lt_or_ge 2 n with h3 | h3
    · rcases h.2 with h0 | h0
      · omega
      · have := bp_le (show 2 ≤ n - 1 by omega)
        omega
    · exact h3
set_option maxRecDepth 100000 in
theorem rtoInt_any {z : Int} (hz : z.natAbs < bp 32) {r : Int × Bool} (hr : toI z = r) (w : World) : Calls Tryz.prog 81 #[.agg (IC z)] w (RetB (.tuple #[.int .i64 r.1, .bool r.2]) w) := by
  have F := Fr.start w
  have g1 := fun w => canon_self hz w
  obtain ⟨n, hn, hu⟩ := used_ex z.natAbs hz
  have g2 := fun w => rlimbs_any hz hu w
  have hu2 := used_two hu
  obtain ⟨m, hm⟩ : ∃ m, z.natAbs = m := ⟨_, rfl⟩
  obtain ⟨g, hg⟩ : ∃ g, decide (z < 0) = g := ⟨_, rfl⟩
  rw [hg] at g1
  rw [hm] at hu2 
  have HR := Lib.hid (And.intro hr (And.intro hm hg))
  have hc0 : ∀ W b L, Fr w W ((b, IC z, 29) :: L) → W.cell? ⟨b, 0, none⟩ = some (.bool g) := fun W b L h => by
    have h2 := (h.get Lies.here).cell (intC_neg (decide (z < 0)) z.natAbs)
    rwa [hg] at h2
  have hcl : ∀ W b L i, i < 32 → Fr w W ((b, IC z, 29) :: L) → W.cell? ⟨b, 1 + i, none⟩ = some (.int .u32 (lim m i)) := fun W b L i hi h => by
    have h2 := (h.get Lies.here).cell (intC_limb (n := decide (z < 0)) (m := z.natAbs) hi)
    rwa [hm] at h2
  clear hr hm hg hu hz hn
  go_enter Tryz.func81, Tryz.ntmps81
  go_wp2_with (first | go_skip | ((with_reducible apply fL F); exact rfl; exact rfl; (exact tL); (exact tR3)) | ((with_reducible apply fLm F); exact rfl; exact rfl; (exact tL); (exact tM3); (exact tR3)) | ((with_reducible apply fX_int F); exact rfl; exact rfl) | ((with_reducible apply fS F); exact rfl; exact rfl; exact rfl; (exact tL); (exact tR3); (exact tS2); clear F; intro W F; simp only [List.cons_append, List.nil_append] at F))
  (clear F; intro b1 W F; try simp only [Act.put, List.setIfInBounds_toArray, List.set_cons_zero, List.set_cons_succ])
  have c0 := hc0 _ _ _ F
  go_upto_region 2 with (first | go_skip | ((go_at_call 129); (with_reducible refine fr_call F (g1 _) ?_); (clear F; intro W F); (try dsimp only)) | ((with_reducible apply fL F); exact rfl; exact rfl; (exact tL); (exact tR3)) | ((with_reducible apply fLm F); exact rfl; exact rfl; (exact tL); (exact tM3); (exact tR3)) | ((with_reducible apply fX_int F); exact rfl; exact rfl) | ((with_reducible apply fS F); exact rfl; exact rfl; exact rfl; (exact tL); (exact tR3); (exact tS2); clear F; intro W F; simp only [List.cons_append, List.nil_append] at F))
  clear c0
  have c0 := hc0 _ _ _ F
  have c1 := hcl _ _ _ 0 (by decide) F
  have c2 := hcl _ _ _ 1 (by decide) F
  clear hc0 hcl
  by_cases h2 : ¬ n ≤ 2
  · have hr : (0, false) = r := by
      obtain ⟨h1, h3, h4⟩ := HR.out
      rw [← h1, toI, if_neg]
      intro ⟨h5, h6⟩
      exact h2 (hu2.2 (by omega))
    subst hr
    have t1 : decide ((2 : Int) < (n : Int)) = true := decide_eq_true (by omega)
    clear hu2 h2 HR c0 c1 c2
    go_wp2_with (first | go_skip | ((go_at_call 130); (with_reducible refine fr_call F (g2 _) ?_); (clear F; intro W F); (try dsimp only)) | ((with_reducible apply fL F); exact rfl; exact rfl; (exact tL); (exact tR3)) | ((with_reducible apply fLm F); exact rfl; exact rfl; (exact tL); (exact tM3); (exact tR3)) | ((with_reducible apply fX_int F); exact rfl; exact rfl) | ((with_reducible apply fS F); exact rfl; exact rfl; exact rfl; (exact tL); (exact tR3); (exact tS2); clear F; intro W F; simp only [List.cons_append, List.nil_append] at F))
    go_ret2
    exact ⟨rfl, F.below⟩
  rw [Classical.not_not] at h2
  have hl := hu2.1 h2
  have t1 : decide ((2 : Int) < (n : Int)) = false := decide_eq_false (by omega)
  have hcell : ∀ W, Fr w W [(b1, IC z, 29)] → W.cell? ⟨b1, 0, none⟩ = some (.bool g) ∧ W.cell? ⟨b1, 1, none⟩ = some (.int .u32 (lim m 0)) ∧ W.cell? ⟨b1, 2, none⟩ = some (.int .u32 (lim m 1)) := fun W h => by
    have h1 := (h.get Lies.here).cell (intC_neg (decide (z < 0)) z.natAbs)
    have h2 := (h.get Lies.here).cell (intC_limb (n := decide (z < 0)) (m := z.natAbs) (i := 0) (by decide))
    have h3 := (h.get Lies.here).cell (intC_limb (n := decide (z < 0)) (m := z.natAbs) (i := 1) (by decide))
    rw [HR.out.2.2] at h1
    rw [HR.out.2.1] at h2 h3
    exact ⟨h1, h2, h3⟩
  have e := two_lims hl
  have k1 := lim_lt m 1
  have k0 := lim_lt m 0
  obtain ⟨x, hx⟩ : ∃ x, lim m 1 = x := ⟨_, rfl⟩
  obtain ⟨y, hy⟩ : ∃ y, lim m 0 = y := ⟨_, rfl⟩
  rw [hx, hy] at e
  simp only [hx, hy] at hcell
  rw [hx] at k1
  rw [hy] at k0
  have ho := or64 k1 k0
  rw [← e] at ho
  clear hx hy e hu2 h2 c0 c1 c2
  go_upto_region 4 with (first | go_skip | ((go_at_call 130); (with_reducible refine fr_call F (g2 _) ?_); (clear F; intro W F); (try dsimp only)) | ((with_reducible apply fL F); exact rfl; exact rfl; (exact tL); (exact tR3)) | ((with_reducible apply fLm F); exact rfl; exact rfl; (exact tL); (exact tM3); (exact tR3)) | ((with_reducible apply fX_int F); exact rfl; exact rfl) | ((with_reducible apply fS F); exact rfl; exact rfl; exact rfl; (exact tL); (exact tR3); (exact tS2); clear F; intro W F; simp only [List.cons_append, List.nil_append] at F))
  obtain ⟨c0, c1, c2⟩ := hcell _ F
  clear hcell g1 g2
  cases g
  · have hz := of_decide_eq_false HR.out.2.2
    by_cases h63 : m < 9223372036854775808
    · have hr : ((m : Int), true) = r := by
        obtain ⟨h1, h2, h3⟩ := HR.out
        rw [← h1, toI, if_pos (by omega)]
        have : z = (m : Int) := by omega
        rw [this]
      subst hr
      have e := IntWalk.i64_in (m : Int) (by omega)
      have t2 : decide ((m : Int) < 9223372036854775808) = true := decide_eq_true (by omega)
      clear h63 hz hl
      go_wp2_with fail
      go_ret2
      exact ⟨rfl, F.below⟩
    · have hr : (0, false) = r := by
        obtain ⟨h1, h2, h3⟩ := HR.out
        rw [← h1, toI, if_neg (by omega)]
      subst hr
      have t2 : decide ((m : Int) < 9223372036854775808) = false := decide_eq_false (by omega)
      clear h63 hz hl
      go_wp2_with fail
      go_ret2
      exact ⟨rfl, F.below⟩
  · have hz := of_decide_eq_true HR.out.2.2
    by_cases h63 : m ≤ 9223372036854775808
    · have hr : (-(m : Int), true) = r := by
        obtain ⟨h1, h2, h3⟩ := HR.out
        rw [← h1, toI, if_pos (by omega)]
        have : z = -(m : Int) := by omega
        rw [this]
      subst hr
      have t2 : decide ((m : Int) ≤ 9223372036854775808) = true := decide_eq_true (by omega)
      have HW := Lib.hid (show RowKit.wrap64 (IntKind.u64.wrap (-(m : Int))) = -(m : Int) by rw [IntKind.wrap_u64, RowKit.wrap64]; omega)
      clear h63 hz hl
      go_wp2_with fail
      go_ret2
      exact ⟨by rw [HW.out]; rfl, F.below⟩
    · have hr : (0, false) = r := by
        obtain ⟨h1, h2, h3⟩ := HR.out
        rw [← h1, toI, if_neg (by omega)]
      subst hr
      have t2 : decide ((m : Int) ≤ 9223372036854775808) = false := decide_eq_false (by omega)
      clear h63 hz hl
      go_wp2_with fail
      go_ret2
      exact ⟨rfl, F.below⟩
set_option maxRecDepth 100000 in
theorem rlow_any {m : Nat} (hl : m < 18446744073709551616) (w : World) : Calls Tryz.prog 160 #[.agg (limA 32 m)] w (RetB (.int .u64 m) w) := by
  have F := Fr.start w
  have e := two_lims hl
  have k1 := lim_lt m 1
  have k0 := lim_lt m 0
  obtain ⟨x, hx⟩ : ∃ x, lim m 1 = x := ⟨_, rfl⟩
  obtain ⟨y, hy⟩ : ∃ y, lim m 0 = y := ⟨_, rfl⟩
  rw [hx, hy] at e
  rw [hx] at k1
  rw [hy] at k0
  have ho := or64 k1 k0
  rw [← e] at ho
  have hc1 : (limA 32 m)[1]? = some (.int .u32 x) := by rw [← hx]; exact limA_at (by decide)
  have hc0 : (limA 32 m)[0]? = some (.int .u32 y) := by rw [← hy]; exact limA_at (by decide)
  clear hx hy e hl
  go_enter Tryz.func160, Tryz.ntmps160
  go_wp2_with (first | go_skip | ((with_reducible apply fX_arr F); exact rfl; exact rfl))
  (clear F; intro b1 W F; try simp only [Act.put, List.setIfInBounds_toArray, List.set_cons_zero, List.set_cons_succ])
  have c1 := (F.get Lies.here).cell hc1
  have c0 := (F.get Lies.here).cell hc0
  go_wp2_with fail
  go_ret
  exact ⟨rfl, F.below⟩
set_option maxRecDepth 100000 in
theorem rsmall_any {a : Nat} (ha1 : a < 18446744073709551616) (w : World) : Calls Tryz.prog 159 #[.int .u64 a] w (RetB (.agg (limA 32 a)) w) := by
  have F := Fr.start w
  obtain ⟨l0, hl0⟩ : ∃ l, lim a 0 = l := ⟨_, rfl⟩
  obtain ⟨l1, hl1⟩ : ∃ l, lim a 1 = l := ⟨_, rfl⟩
  have hs := lim_two ha1
  have b0 := lim_lt a 0
  have b1 := lim_lt a 1
  rw [hl0] at b0 hs
  rw [hl1] at b1 hs
  have e2 : (a : Int) % 4294967296 = (l0 : Int) := by omega
  have e3 : (a : Int) / 4294967296 = (l1 : Int) := by omega
  have e4 : (l1 : Int) % 4294967296 = (l1 : Int) := by omega
  have HK : Hid (∀ (w W : World) (b : Nat) (L : List Ent), Fr w W ((b, limA 32 0, 27) :: L) → Fr w ((W.setCell ⟨b, 0, none⟩ (.int .u32 l0)).setCell ⟨b, 1, none⟩ (.int .u32 l1)) ((b, limA 32 a, 27) :: L)) := Lib.hid (fun w W b L F => by
    have F2 := (F.cellA (A := []) 0 (.int .u32 l0)).is (limA_set b0)
    have F3 := (F2.cellA (A := []) 1 (.int .u32 l1)).is (limA_set b1)
    rw [setM_two b0 b1, ← hs] at F3
    exact F3)
  clear hl0 hl1 hs
  go_enter Tryz.func159, Tryz.ntmps159
  go_wp2_with (first | go_skip | ((with_reducible apply fL F); exact rfl; exact rfl; (exact tL); (exact tR3)) | ((with_reducible apply fA_arr F); exact rfl) | ((with_reducible apply fS F); exact rfl; exact rfl; exact rfl; (exact tL); (exact tR3); (exact tS2); clear F; intro W F; simp only [List.cons_append, List.nil_append] at F))
  (clear F; intro b2 W F; try simp only [Act.put, List.setIfInBounds_toArray, List.set_cons_zero, List.set_cons_succ])
  go_wp2_with (first | go_skip | ((with_reducible apply fL F); exact rfl; exact rfl; (exact tL); (exact tR3)) | ((with_reducible apply fA_arr F); exact rfl) | ((with_reducible apply fS F); exact rfl; exact rfl; exact rfl; (exact tL); (exact tR3); (exact tS2); clear F; intro W F; simp only [List.cons_append, List.nil_append] at F))
  (clear F; intro b3 W F; try simp only [Act.put, List.setIfInBounds_toArray, List.set_cons_zero, List.set_cons_succ])
  have c1 := (F.get Lies.here).cell (limA_at (n := 32) (m := 0) (j := 0) (by decide))
  have c2 := (F.get Lies.here).cell (limA_at (n := 32) (m := 0) (j := 1) (by decide))
  have f1 := BlkAt.fz (F.get Lies.here) 0
  have f2 := BlkAt.fz (F.get Lies.here) 1
  have FN := Lib.hid (HK.out _ _ _ _ F)
  go_upto_region 3 with fail
  clear F c1 c2 f1 f2
  have F := FN.out
  clear FN
  generalize World.setCell _ _ _ = W7 at *
  go_wp2_with (first | go_skip | ((with_reducible apply fL F); exact rfl; exact rfl; (exact tL); (exact tR3)) | ((with_reducible apply fA_arr F); exact rfl) | ((with_reducible apply fS F); exact rfl; exact rfl; exact rfl; (exact tL); (exact tR3); (exact tS2); clear F; intro W F; simp only [List.cons_append, List.nil_append] at F))
  exact bodyPost_ret (res_c rfl rfl (Fr.get F tL) (rowArr _)) rfl ⟨rfl, F.below⟩
end
section
open Go.RowKit
set_option maxHeartbeats 4000000
theorem dbl_step {m bit i q S : Nat} (hq : q ≤ 1) (h1 : S / bp i = m / bp i) (h2 : S % bp i + q * bp i = 2 * (m % bp i) + bit) :
    lim S i = lim m i ∧ setM S i ((2 * lim m i + q) % 4294967296) / bp (i + 1) = m / bp (i + 1) ∧ setM S i ((2 * lim m i + q) % 4294967296) % bp (i + 1) + (2 * lim m i + q) / 4294967296 * bp (i + 1) = 2 * (m % bp (i + 1)) + bit := by
  have hl : lim S i = lim m i := by unfold lim; rw [h1]
  have hd : (2 * lim m i + q) % 4294967296 < 4294967296 := Nat.mod_lt _ (by decide)
  have h3 : S / bp (i + 1) = m / bp (i + 1) := by
    have a := div_succ S i
    have b := div_succ m i
    rw [hl] at a
    omega
  refine ⟨hl, by rw [setM_high hd, h3], ?_⟩
  rw [mod_succ, setM_mod, lim_set hd, if_pos rfl, mod_succ m i, bp_succ]
  generalize lim m i = x at *
  have e : (2 * x + q) % 4294967296 * bp i + (2 * x + q) / 4294967296 * (bp i * 4294967296) = (2 * x + q) * bp i := by
    rw [Nat.mul_comm (bp i) 4294967296, ← Nat.mul_assoc, ← Nat.add_mul]
    congr 1
    have := Nat.mod_add_div (2 * x + q) 4294967296
    omega
  have e2 : (2 * x + q) * bp i = 2 * (x * bp i) + q * bp i := by rw [Nat.add_mul, Nat.mul_assoc]
  omega
theorem Fr.is2 {w W : World} {x : Ent} {b : Nat} {cs cs' : Array Value} {t : TypeId} {L : List Ent} (h : Fr w W (x :: (b, cs, t) :: L)) (e : cs = cs') : Fr w W (x :: (b, cs', t) :: L) := e ▸ h
theorem or_bit {x q : Nat} (hx : x < 4294967296) (hq : q ≤ 1) : (x * 2 % 4294967296) ||| q = (2 * x + q) % 4294967296 ∧ x / 2147483648 = (2 * x + q) / 4294967296 := by
  refine ⟨?_, by omega⟩
  have h := Nat.two_pow_add_eq_or_of_lt (i := 1) (b := q) (by omega) (x % 2147483648)
  rw [show x * 2 % 4294967296 = 2 ^ 1 * (x % 2147483648) by omega, ← h]
  omega
set_option maxRecDepth 100000 in
theorem rdouble_any {m bit : Nat} (lm : m < bp 32) (hbit : bit ≤ 1) {r : Nat} {f : Bool} (hr : (2 * m + bit) % bp 32 = r) (hf : decide (bp 32 ≤ 2 * m + bit) = f) (w : World) : Calls Tryz.prog 162 #[.agg (limA 32 m), .int .u32 bit] w (RetB (.tuple #[.agg (limA 32 r), .bool f]) w) := by
  have F := Fr.start w
  have HR := Lib.hid (And.intro hr (And.intro hf (And.intro lm hbit)))
  clear hr hf lm hbit
  go_enter Tryz.func162, Tryz.ntmps162
  go_wp2_with (first | go_skip | ((with_reducible apply fL F); exact rfl; exact rfl; (exact tL); (exact tR3)) | ((with_reducible apply fA_arr F); exact rfl) | ((with_reducible apply fX_arr F); exact rfl; exact rfl) | ((with_reducible apply fS F); exact rfl; exact rfl; exact rfl; (exact tL); (exact tR3); (exact tS2); clear F; intro W F; simp only [List.cons_append, List.nil_append] at F))
  (clear F; intro b2 W F; try simp only [Act.put, List.setIfInBounds_toArray, List.set_cons_zero, List.set_cons_succ])
  go_wp2_with (first | go_skip | ((with_reducible apply fL F); exact rfl; exact rfl; (exact tL); (exact tR3)) | ((with_reducible apply fA_arr F); exact rfl) | ((with_reducible apply fX_arr F); exact rfl; exact rfl) | ((with_reducible apply fS F); exact rfl; exact rfl; exact rfl; (exact tL); (exact tR3); (exact tS2); clear F; intro W F; simp only [List.cons_append, List.nil_append] at F))
  (clear F; intro b4 W F; try simp only [Act.put, List.setIfInBounds_toArray, List.set_cons_zero, List.set_cons_succ])
  go_wp2_with (first | go_skip | ((with_reducible apply fL F); exact rfl; exact rfl; (exact tL); (exact tR3)) | ((with_reducible apply fA_arr F); exact rfl) | ((with_reducible apply fX_arr F); exact rfl; exact rfl) | ((with_reducible apply fS F); exact rfl; exact rfl; exact rfl; (exact tL); (exact tR3); (exact tS2); clear F; intro W F; simp only [List.cons_append, List.nil_append] at F))
  go_loopw [1, 6] (fun bv iv wr => ∃ i q S : Nat, i ≤ 32 ∧ q ≤ 1 ∧ S < bp 32 ∧ bv = .int .u32 q ∧ iv = .int .i64 i ∧ S / bp i = m / bp i ∧ S % bp i + q * bp i = 2 * (m % bp i) + bit ∧ Fr w wr [(b4, limA 32 0, 27), (b2, limA 32 S, 27)]) (fun _ iv _ => 32 - (intOf iv).toNat)
  case atStart => exact ⟨0, bit, m, by omega, HR.out.2.2.2, HR.out.2.2.1, rfl, rfl, rfl, by rw [bp_zero]; omega, F⟩
  case round =>
    clear F
    obtain ⟨i, q, S, hi, hq, hS, rfl, rfl, h1, h2, F⟩ := hrel
    by_cases hlt : i < 32
    · obtain ⟨hl, s1, s2⟩ := dbl_step hq h1 h2
      have hx1 := lim_lt m i
      obtain ⟨x, hx⟩ : ∃ x, lim m i = x := ⟨_, rfl⟩
      rw [hx] at hl s1 s2 hx1
      obtain ⟨o1, o2⟩ := or_bit hx1 hq
      obtain ⟨d, hd⟩ : ∃ d, (2 * x + q) % 4294967296 = d := ⟨_, rfl⟩
      obtain ⟨q', hq'⟩ : ∃ q', (2 * x + q) / 4294967296 = q' := ⟨_, rfl⟩
      rw [hd] at s1 s2 o1
      rw [hq'] at s2 o2
      have hd1 : d < 4294967296 := by rw [← hd]; exact Nat.mod_lt _ (by decide)
      have c1 := (F.get (Lies.tl Lies.here)).cell (limA_at (m := S) hlt)
      have f1 := BlkAt.fz (F.get (Lies.tl Lies.here)) i
      rw [hl] at c1
      have m1 : IntKind.u32.wrap ((x : Int) * 2) = ((x * 2 % 4294967296 : Nat) : Int) := by rw [IntKind.wrap_u32]; omega
      obtain ⟨p, hp⟩ : ∃ p, x * 2 % 4294967296 = p := ⟨_, rfl⟩
      rw [hp] at m1 o1
      have mo : bits .or .u32 (p : Int) (q : Int) = (d : Int) := by rw [u32_or_nat p q (by omega) (by omega), o1]
      have m2 : (x : Int) / 2147483648 = (q' : Int) := by omega
      have i0 : (0 : Int) ≤ (i : Int) := by omega
      have i1 : (i : Int) < 32 := by omega
      have HN := Lib.hid (And.intro s1 (And.intro s2 (And.intro (setM_lt hS hlt hd1) (And.intro (show q' ≤ 1 by omega) ((F.cellA (A := [(b4, limA 32 0, 27)]) i (.int .u32 d)).is2 (limA_set hd1))))))
      clear s1 s2 hl h1 h2 hx o1 o2 hd hq' hp F hd1 hS
      go_wp2_with fail
      go_region_law (first | fail)
      all_goals
        go_simp
        go_wp2_with fail
        go_roundw
        case rel => exact ⟨i + 1, q', setM S i d, by omega, HN.out.2.2.2.1, HN.out.2.2.1, rfl, by go_num, HN.out.1, HN.out.2.1, HN.out.2.2.2.2.drew⟩
        case measure => simp [intOf]; omega
    · obtain rfl : i = 32 := by omega
      obtain ⟨hr, hf, lm, hb⟩ := HR.out
      rw [Nat.mod_eq_of_lt hS, Nat.mod_eq_of_lt lm] at h2
      have hsv : S = r := by rw [← hr, ← h2, Nat.add_mul_mod_self_right, Nat.mod_eq_of_lt hS]
      have g1 : ((q : Int) == 1) = f := by
        rw [← hf, ← h2]
        have hq2 : q = 0 ∨ q = 1 := by omega
        rcases hq2 with rfl | rfl
        · rw [decide_eq_false (by omega)]
          rfl
        · rw [decide_eq_true (by omega)]
          rfl
      subst hsv
      clear HR hr hf lm hb h1 h2 hS hq hlt
      go_wp2_with (first | go_skip | ((with_reducible apply fL F); exact rfl; exact rfl; (exact tL); (exact tR3)) | ((with_reducible apply fA_arr F); exact rfl) | ((with_reducible apply fX_arr F); exact rfl; exact rfl) | ((with_reducible apply fS F); exact rfl; exact rfl; exact rfl; (exact tL); (exact tR3); (exact tS2); clear F; intro W F; simp only [List.cons_append, List.nil_append] at F))
      exact bodyPost_ret (res_cs rfl rfl rfl (Fr.get F tL) (rowArr _)) rfl ⟨rfl, F.below⟩
end
section
open Go.RowKit
theorem bit_eq {a i j s : Nat} (h : i = 32 * j + s) (hs : s < 32) : lim a j / 2 ^ s % 2 = a / 2 ^ i % 2 := by
  have h1 := lim_testBit a j s
  rw [decide_eq_true hs, Bool.true_and, ← h, Nat.testBit_eq_decide_div_mod_eq, Nat.testBit_eq_decide_div_mod_eq, decide_eq_decide] at h1
  generalize lim a j / 2 ^ s = p at *
  generalize a / 2 ^ i = q at *
  omega
theorem div_step {a b i r q R : Nat} (hb : 0 < b) (hr : a / 2 ^ (i + 1) % b = r) (hq : a / 2 ^ (i + 1) / b * 2 ^ (i + 1) = q) (hR : 2 * r + a / 2 ^ i % 2 = R) :
    r < b ∧ (R < b → a / 2 ^ i % b = R ∧ a / 2 ^ i / b * 2 ^ i = q) ∧ (b ≤ R → a / 2 ^ i % b = R - b ∧ a / 2 ^ i / b * 2 ^ i = q + 2 ^ i) := by
  have hlt : r < b := by rw [← hr]; exact Nat.mod_lt _ hb
  rw [Nat.pow_succ] at hr hq
  rw [← Nat.div_div_eq_div_mul] at hr hq
  generalize a / 2 ^ i = B at *
  generalize 2 ^ i = P at *
  have hdm := Nat.div_add_mod (B / 2) b
  rw [hr] at hdm
  generalize B / 2 / b = Q at *
  refine ⟨hlt, fun h => ?_, fun h => ?_⟩
  · have h1 : R + b * (2 * Q) = B := by rw [Nat.mul_left_comm]; omega
    obtain ⟨h2, h3⟩ := (Nat.div_mod_unique hb).2 ⟨h1, h⟩
    exact ⟨h3, by rw [h2, ← hq, Nat.mul_comm 2 Q, Nat.mul_assoc, Nat.mul_comm 2 P]⟩
  · have h1 : R - b + b * (2 * Q + 1) = B := by rw [Nat.mul_add, Nat.mul_left_comm]; omega
    obtain ⟨h2, h3⟩ := (Nat.div_mod_unique hb).2 ⟨h1, by omega⟩
    exact ⟨h3, by rw [h2, ← hq, Nat.add_mul, Nat.mul_comm 2 Q, Nat.mul_assoc, Nat.mul_comm 2 P, Nat.one_mul]⟩
theorem quo_bit {q i j s : Nat} (h : i = 32 * j + s) (hs : s < 32) (hq : q % 2 ^ (i + 1) = 0) : (lim q j ||| 2 ^ s) = lim q j + 2 ^ s ∧ lim q j + 2 ^ s < 4294967296 ∧ setM q j (lim q j + 2 ^ s) = q + 2 ^ i := by
  have hpi : 2 ^ i = bp j * 2 ^ s := by rw [h, Nat.pow_add, bp_two]
  obtain ⟨c, hc⟩ : ∃ c, q = 2 ^ (i + 1) * c := ⟨_, (Nat.mul_div_cancel' (Nat.dvd_of_mod_eq_zero hq)).symm⟩
  have hx : ∃ d, lim q j = 2 ^ (s + 1) * d ∧ d < 2 ^ (31 - s) := by
    refine ⟨c % 2 ^ (31 - s), ?_, Nat.mod_lt _ (Nat.pow_pos (by decide))⟩
    have e : (4294967296 : Nat) = 2 ^ (s + 1) * 2 ^ (31 - s) := by rw [← Nat.pow_add, show s + 1 + (31 - s) = 32 by omega]
    unfold lim
    rw [hc, Nat.pow_succ, hpi, Nat.mul_assoc (bp j), Nat.mul_assoc (bp j), Nat.mul_div_cancel_left _ (bp_pos j), ← Nat.pow_succ, e, Nat.mul_mod_mul_left]
  obtain ⟨d, hd, hd2⟩ := hx
  have hlt : 2 ^ s < 2 ^ (s + 1) := Nat.pow_lt_pow_right (by decide) (by omega)
  refine ⟨?_, ?_, ?_⟩
  · rw [hd, Nat.two_pow_add_eq_or_of_lt hlt]
  · have e : 2 ^ (s + 1) * 2 ^ (31 - s) = 4294967296 := by rw [← Nat.pow_add, show s + 1 + (31 - s) = 32 by omega]
    have h1 : 2 ^ (s + 1) * (d + 1) ≤ 2 ^ (s + 1) * 2 ^ (31 - s) := Nat.mul_le_mul_left _ hd2
    rw [e, Nat.mul_add, Nat.mul_one] at h1
    omega
  · have h1 := setM_add q j (lim q j + 2 ^ s)
    rw [Nat.add_mul, Nat.mul_comm (2 ^ s), ← hpi] at h1
    omega
theorem shr_small {a m n : Nat} (ha : a < 2 ^ m) : a / 2 ^ (m - n) < 2 ^ n := by
  rw [Nat.div_lt_iff_lt_mul (Nat.pow_pos (by decide)), ← Nat.pow_add]
  exact Nat.lt_of_lt_of_le ha (Nat.pow_le_pow_right (by decide) (by omega))
end
section
open Go.RowKit
set_option maxHeartbeats 4000000
theorem putAll_self (ts : List Value) (sl : List Nat) : putAll ts sl (sl.map fun i => ts.getD i undef) = ts := by
  induction sl with
  | nil => rfl
  | cons i sl ih =>
    have e : ts.set i (ts.getD i undef) = ts := by
      by_cases h : i < ts.length
      · simp [List.getD, h]
      · exact List.set_eq_of_length_le (by omega)
    show putAll (ts.set i (ts.getD i undef)) sl (sl.map fun i => ts.getD i undef) = ts
    rw [e]
    exact ih
theorem dr_c4 {i : Nat} (h : i < 4) : i = 0 ∨ i = 1 ∨ i = 2 ∨ i = 3 := by omega
theorem dr_c5 {i : Nat} (h : i < 5) : i = 0 ∨ i = 1 ∨ i = 2 ∨ i = 3 ∨ i = 4 := by omega
theorem dr_c6 {i : Nat} (h : i < 6) : i = 0 ∨ i = 1 ∨ i = 2 ∨ i = 3 ∨ i = 4 ∨ i = 5 := by omega
theorem dr_c7 {i : Nat} (h : i < 7) : i = 0 ∨ i = 1 ∨ i = 2 ∨ i = 3 ∨ i = 4 ∨ i = 5 ∨ i = 6 := by omega
theorem dr_c8 {i : Nat} (h : i < 8) : i = 0 ∨ i = 1 ∨ i = 2 ∨ i = 3 ∨ i = 4 ∨ i = 5 ∨ i = 6 ∨ i = 7 := by omega
theorem dr_c9 {i : Nat} (h : i < 9) : i = 0 ∨ i = 1 ∨ i = 2 ∨ i = 3 ∨ i = 4 ∨ i = 5 ∨ i = 6 ∨ i = 7 ∨ i = 8 := by omega
theorem dr_c11 {i : Nat} (h : i < 11) : i = 0 ∨ i = 1 ∨ i = 2 ∨ i = 3 ∨ i = 4 ∨ i = 5 ∨ i = 6 ∨ i = 7 ∨ i = 8 ∨ i = 9 ∨ i = 10 := by omega
theorem dr_c12 {i : Nat} (h : i < 12) : i = 0 ∨ i = 1 ∨ i = 2 ∨ i = 3 ∨ i = 4 ∨ i = 5 ∨ i = 6 ∨ i = 7 ∨ i = 8 ∨ i = 9 ∨ i = 10 ∨ i = 11 := by omega
theorem dr_c13 {i : Nat} (h : i < 13) : i = 0 ∨ i = 1 ∨ i = 2 ∨ i = 3 ∨ i = 4 ∨ i = 5 ∨ i = 6 ∨ i = 7 ∨ i = 8 ∨ i = 9 ∨ i = 10 ∨ i = 11 ∨ i = 12 := by omega
theorem dr_c14 {i : Nat} (h : i < 14) : i = 0 ∨ i = 1 ∨ i = 2 ∨ i = 3 ∨ i = 4 ∨ i = 5 ∨ i = 6 ∨ i = 7 ∨ i = 8 ∨ i = 9 ∨ i = 10 ∨ i = 11 ∨ i = 12 ∨ i = 13 := by omega
theorem dr_c15 {i : Nat} (h : i < 15) : i = 0 ∨ i = 1 ∨ i = 2 ∨ i = 3 ∨ i = 4 ∨ i = 5 ∨ i = 6 ∨ i = 7 ∨ i = 8 ∨ i = 9 ∨ i = 10 ∨ i = 11 ∨ i = 12 ∨ i = 13 ∨ i = 14 := by omega
theorem dr_c16 {i : Nat} (h : i < 16) : i = 0 ∨ i = 1 ∨ i = 2 ∨ i = 3 ∨ i = 4 ∨ i = 5 ∨ i = 6 ∨ i = 7 ∨ i = 8 ∨ i = 9 ∨ i = 10 ∨ i = 11 ∨ i = 12 ∨ i = 13 ∨ i = 14 ∨ i = 15 := by omega
theorem lim_up (m k i : Nat) : lim (m / bp k) i = lim m (i + k) := by
  unfold lim
  rw [Nat.div_div_eq_div_mul, Nat.add_comm, bp_add]
theorem shr_split {m k s n : Nat} (h : n = 32 * k + s) : m / 2 ^ n = m / bp k / 2 ^ s := by
  rw [h, Nat.pow_add, ← bp_two, Nat.div_div_eq_div_mul]
theorem wraps {j : Nat} (h : j ≤ 100000) : RowKit.wrap64 (j : Int) = (j : Int) ∧ IntKind.i64.wrap (j : Int) = (j : Int) ∧ IntKind.u64.wrap (j : Int) = (j : Int) := ⟨by rw [RowKit.wrap64]; omega, IntWalk.i64_in _ (by omega), wrap64 (by omega)⟩
theorem tdiv_nat {n d k : Nat} (h : n / d = k) : Int.tdiv (n : Int) (d : Int) = (k : Int) := by rw [← h]; exact Int.ofNat_tdiv n d
theorem tmod_nat {n d k : Nat} (h : n % d = k) : Int.tmod (n : Int) (d : Int) = (k : Int) := by rw [← h]; exact Int.ofNat_tmod n d
theorem meas_up {i : Nat} (h : i < 32) : 32 - (intOf (Value.int .i64 ((i + 1 : Nat) : Int))).toNat < 32 - (intOf (Value.int .i64 (i : Int))).toNat := by
  simp only [intOf]
  omega
set_option maxRecDepth 100000 in
theorem rshifted_any {m n : Nat} (lm : m < bp 32) (hn : n ≤ 1024) (w : World) : Calls Tryz.prog 161 #[.agg (limA 32 m), .int .i64 n] w (RetB (.agg (limA 32 (m / 2 ^ n))) w) := by
  have F := Fr.start w
  obtain ⟨k, hk⟩ : ∃ k, n / 32 = k := ⟨_, rfl⟩
  obtain ⟨s, hs⟩ : ∃ s, n % 32 = s := ⟨_, rfl⟩
  have hs32 : s < 32 := by omega
  have hk32 : k ≤ 32 := by omega
  have hsp := shr_split (m := m) (k := k) (s := s) (n := n) (by omega)
  obtain ⟨r, hr⟩ : ∃ r, m / 2 ^ n = r := ⟨_, rfl⟩
  rw [hr] at hsp
  have hrb : r < bp (32 - k) := by
    rw [hsp]
    refine Nat.lt_of_le_of_lt (Nat.div_le_self _ _) ?_
    rw [Nat.div_lt_iff_lt_mul (bp_pos k), ← bp_add, Nat.sub_add_cancel hk32]
    exact lm
  have HS := Lib.hid (And.intro hsp (And.intro hrb (And.intro hr lm)))
  have d1 := tdiv_nat hk
  have d2 := tmod_nat hs
  have d3 : (n : Int) / 32 = (k : Int) := by omega
  have d4 : (n : Int) % 32 = (s : Int) := by omega
  have HK := Lib.hid (And.intro hk32 hs32)
  obtain ⟨ws1, ws2, ws3⟩ := wraps (j := s) (by omega)
  obtain ⟨wk1, wk2, wk3⟩ := wraps (j := k) (by omega)
  clear hk hs hsp hr hrb lm hn hk32 hs32
  go_enter Tryz.func161, Tryz.ntmps161
  go_wp2_with (first | go_skip | ((with_reducible apply fL F); exact rfl; exact rfl; (exact tL); (exact tR3)) | ((with_reducible apply fA_arr F); exact rfl) | ((with_reducible apply fX_arr F); exact rfl; exact rfl) | ((with_reducible apply fS F); exact rfl; exact rfl; exact rfl; (exact tL); (exact tR3); (exact tS2); clear F; intro W F; simp only [List.cons_append, List.nil_append] at F))
  (clear F; intro b2 W F; try simp only [Act.put, List.setIfInBounds_toArray, List.set_cons_zero, List.set_cons_succ])
  go_wp2_with (first | go_skip | ((with_reducible apply fL F); exact rfl; exact rfl; (exact tL); (exact tR3)) | ((with_reducible apply fA_arr F); exact rfl) | ((with_reducible apply fX_arr F); exact rfl; exact rfl) | ((with_reducible apply fS F); exact rfl; exact rfl; exact rfl; (exact tL); (exact tR3); (exact tS2); clear F; intro W F; simp only [List.cons_append, List.nil_append] at F))
  (clear F; intro b4 W F; try simp only [Act.put, List.setIfInBounds_toArray, List.set_cons_zero, List.set_cons_succ])
  go_wp2_with (first | go_skip | ((with_reducible apply fL F); exact rfl; exact rfl; (exact tL); (exact tR3)) | ((with_reducible apply fA_arr F); exact rfl) | ((with_reducible apply fX_arr F); exact rfl; exact rfl) | ((with_reducible apply fS F); exact rfl; exact rfl; exact rfl; (exact tL); (exact tR3); (exact tS2); clear F; intro W F; simp only [List.cons_append, List.nil_append] at F))
  (clear F; intro b5 W F; try simp only [Act.put, List.setIfInBounds_toArray, List.set_cons_zero, List.set_cons_succ])
  go_wp2_with (first | go_skip | ((with_reducible apply fL F); exact rfl; exact rfl; (exact tL); (exact tR3)) | ((with_reducible apply fA_arr F); exact rfl) | ((with_reducible apply fX_arr F); exact rfl; exact rfl) | ((with_reducible apply fS F); exact rfl; exact rfl; exact rfl; (exact tL); (exact tR3); (exact tS2); clear F; intro W F; simp only [List.cons_append, List.nil_append] at F))
  clear d1 d2 d3 d4 ws1 ws2 ws3 wk1 wk2 wk3
  go_loopw [8] (fun iv wr => ∃ i : Nat, i + k ≤ 32 ∧ iv = .int .i64 i ∧ Fr w wr [(b5, limA 32 (r % bp i), 27), (b4, limA 32 0, 27), (b2, limA 32 m, 27)]) (fun iv _ => 32 - (intOf iv).toNat)
  case atStart => exact ⟨0, by have := HK.out.1; omega, rfl, by rw [bp_zero, Nat.mod_one]; exact F⟩
  case round =>
    clear F
    obtain ⟨i, hi, rfl, F⟩ := hrel
    obtain ⟨j, hj⟩ : ∃ j, i + k = j := ⟨_, rfl⟩
    have mj : (i : Int) + (k : Int) = (j : Int) := by omega
    by_cases hlt : j < 32
    · have hi32 : i < 32 := by omega
      obtain ⟨x, hx⟩ : ∃ x, lim m j = x := ⟨_, rfl⟩
      have hx1 : x < 4294967296 := by rw [← hx]; exact lim_lt _ _
      obtain ⟨p, hp⟩ : ∃ p, x / 2 ^ s = p := ⟨_, rfl⟩
      have hp1 : p < 4294967296 := by rw [← hp]; exact Nat.lt_of_le_of_lt (Nat.div_le_self _ _) hx1
      have m1 : (x : Int) / 2 ^ s = (p : Int) := by rw [← hp]; exact shr_cast x s
      have c1 := (F.get (b := b2) tL).cell (limA_at (m := m) hlt)
      rw [hx] at c1
      have c2 := (F.get (b := b5) Lies.here).cell (limA_at (m := r % bp i) hi32)
      have f2 := BlkAt.fz (F.get (b := b5) Lies.here) i
      have i0 : (0 : Int) ≤ (i : Int) := by omega
      have i1 : (i : Int) < 32 := by omega
      have j0 : (0 : Int) ≤ (j : Int) := by omega
      have j1 : (j : Int) < 32 := by omega
      have hstep : setM (r % bp i) i (lim r i) = r % bp (i + 1) := by
        rw [setM_new (Nat.mod_lt _ (bp_pos i)), mod_succ]
      have HWp := Lib.hid ((F.cellA (A := []) i (.int .u32 p)).is (limA_set hp1))
      have HIJ := Lib.hid (And.intro (show i + 1 + k ≤ 32 by omega) (And.intro hj hi32))
      by_cases hone : ¬ (0 < s ∧ j + 1 < 32)
      · have hpp : p = lim r i := by
          rw [← hp, ← hx, HS.out.1]
          by_cases h0s : 0 < s
          · have hj2 : lim m (j + 1) = 0 := by
              have e : j + 1 = 32 := by omega
              rw [e]
              exact lim_ge (n := 32) HS.out.2.2.2 (Nat.le_refl _)
            rw [lim_shr h0s HK.out.2, lim_up, lim_up, hj, show i + 1 + k = j + 1 by omega, hj2, Nat.zero_mul, Nat.zero_mod, Nat.or_zero]
          · have e : s = 0 := by omega
            rw [e, Nat.pow_zero, Nat.div_one, Nat.div_one, lim_up, hj]
        have HN := Lib.hid (show Fr w (wr.setCell ⟨b5, i, none⟩ (.int .u32 p)) [(b5, limA 32 (r % bp (i + 1)), 27), (b4, limA 32 0, 27), (b2, limA 32 m, 27)] by
          have h := HWp.out
          rw [hpp, hstep, ← hpp] at h
          exact h)
        have hcase : (s = 0 ∧ p = x) ∨ (0 < s ∧ ¬ j + 1 < 32) := by
          by_cases h : s = 0
          · exact .inl ⟨h, by rw [← hp, h, Nat.pow_zero, Nat.div_one]⟩
          · exact .inr (by omega)
        have hmin : min s 32 = s := Nat.min_eq_left (by have := HK.out.2; omega)
        clear hpp hstep HWp hx hp F
        rcases hcase with ⟨h0, h1⟩ | ⟨h0, hj2⟩
        · subst h0
          subst h1
          obtain ⟨wj1, wj2, wj3⟩ := wraps (j := j) (by omega)
          clear hone hi hj hx1 hp1
          go_wp2_with fail
          go_roundw
          case rel => exact ⟨i + 1, HIJ.out.1, by first | rfl | go_num, HN.out⟩
          case measure => exact meas_up HIJ.out.2.2
        · have s0 : (0 : Int) < (s : Int) := by omega
          obtain rfl : j = 31 := by omega
          have mj : (i : Int) + (k : Int) = 31 := mj
          have HI1 := Lib.hid (show IntKind.i64.wrap ((i : Int) + 1) = ((i + 1 : Nat) : Int) by rw [show (i : Int) + 1 = ((i + 1 : Nat) : Int) by omega]; exact (wraps (j := i + 1) (by omega)).2.1)
          clear hone hi hj hx1 hp1 h0 hj2 j0 j1
          go_wp2_with fail
          go_roundw
          case rel => exact ⟨i + 1, HIJ.out.1, by first | rfl | go_num, HN.out⟩
          case measure => exact meas_up HIJ.out.2.2
      rw [Classical.not_not] at hone
      obtain ⟨h0s, hj2⟩ := hone
      have s0 : (0 : Int) < (s : Int) := by omega
      obtain ⟨e, he⟩ : ∃ e, 32 - s = e := ⟨_, rfl⟩
      obtain ⟨y, hy⟩ : ∃ y, lim m (j + 1) = y := ⟨_, rfl⟩
      obtain ⟨q, hq⟩ : ∃ q, y * 2 ^ e % 4294967296 = q := ⟨_, rfl⟩
      obtain ⟨o, ho⟩ : ∃ o, p ||| q = o := ⟨_, rfl⟩
      obtain ⟨k1, hk1⟩ : ∃ k1, j + 1 = k1 := ⟨_, rfl⟩
      have hs32 := HK.out.2
      have m2 : (32 : Int) - (s : Int) = (e : Int) := by omega
      have m0 : (j : Int) + 1 = (k1 : Int) := by omega
      have k0 : (0 : Int) ≤ (k1 : Int) := by omega
      have k33 : (k1 : Int) < 32 := by omega
      have hq1 : q < 4294967296 := by rw [← hq]; exact Nat.mod_lt _ (by decide)
      have hoo : o = lim r i := by
        rw [← ho, ← hp, ← hq, ← hy, ← he, ← hx, HS.out.1, lim_shr h0s hs32, lim_up, lim_up, hj, show i + 1 + k = j + 1 by omega]
      have ho1 : o < 4294967296 := by rw [hoo]; exact lim_lt _ _
      have hk32 : k1 < 32 := by omega
      have hmin : min s 32 = s := Nat.min_eq_left (by omega)
      have hmin2 : min e 32 = e := Nat.min_eq_left (by omega)
      have F2 := HWp.out
      have c3 := (F2.get (b := b2) tL).cell (limA_at (m := m) (j := k1) hk32)
      rw [← hk1, hy, hk1] at c3
      have c4 := (F2.get (b := b5) Lies.here).cell (limA_at (m := setM (r % bp i) i p) hi32)
      have f4 := BlkAt.fz (F2.get (b := b5) Lies.here) i
      rw [lim_set hp1, if_pos rfl] at c4
      have HWo := (F2.cellA (A := []) i (.int .u32 o)).is (limA_set ho1)
      rw [setM_setM hp1, hoo, hstep, ← hoo] at HWo
      have HWw := Lib.hid HWo
      clear HWo
      have bj : j ≤ 100000 := by omega
      have bk : k1 ≤ 100000 := by omega
      have be : e ≤ 100000 := by omega
      have m3 : (y : Int) * 2 ^ e % 4294967296 = (q : Int) := by rw [← hq]; exact shl_cast y e
      have m5 : IntKind.u32.wrap ((y : Int) * 2 ^ e) = (q : Int) := by rw [IntKind.wrap_u32]; exact m3
      have mo : bits .or .u32 (p : Int) (q : Int) = (o : Int) := by rw [u32_or_nat p q hp1 hq1, ho]
      obtain ⟨wj1, wj2, wj3⟩ := wraps bj
      have HW8 := Lib.hid (And.intro (wraps bk) (And.intro (wraps be) (And.intro m3 (And.intro m5 (And.intro mo (And.intro m2 (And.intro k0 (And.intro k33 hmin2))))))))
      have HC := Lib.hid (And.intro c3 (And.intro c4 f4))
      obtain ⟨wk1, wk2, wk3⟩ := wraps bk
      have t3 : decide ((k1 : Int) < 32) = true := decide_eq_true k33
      clear hoo hy he hq ho hx hp hq1 hk1 hstep c3 c4 f4 F2 HWp F hx1 hp1 ho1 hs32 hi hj hj2 hlt hk32 bj bk be m3 m5 mo m2 k0 k33 hmin2
      go_upto_region 8 with (fail)
      clear c1 c2 f2 t3
      obtain ⟨c3, c4, f4⟩ := HC.out
      clear HC
      obtain ⟨-, ⟨we1, we2, we3⟩, m3, m5, mo, m2, k0, k33, hmin2⟩ := HW8.out
      clear HW8 s0 m1 hmin
      go_region_law (first | fail)
      all_goals
        go_simp
        try simp only [m3, m5, mo]
        go_wp2_with fail
        go_roundw
        case rel => exact ⟨i + 1, HIJ.out.1, by first | rfl | go_num, HWw.out.drew⟩
        case measure => exact meas_up HIJ.out.2.2
    · have hik : i = 32 - k := by have := HK.out.1; omega
      have hrr : r % bp i = r := Nat.mod_eq_of_lt (by rw [hik]; exact HS.out.2.1)
      rw [hrr] at F
      have t3 : decide ((j : Int) < 32) = false := decide_eq_false (by omega)
      obtain ⟨wj1, wj2, wj3⟩ := wraps (j := j) (by omega)
      have HRR := Lib.hid HS.out.2.2.1
      clear hik hrr hlt hi hj HS HK
      go_wp2_with (first | go_skip | ((with_reducible apply fL F); exact rfl; exact rfl; (exact tL); (exact tR3)) | ((with_reducible apply fA_arr F); exact rfl) | ((with_reducible apply fX_arr F); exact rfl; exact rfl) | ((with_reducible apply fS F); exact rfl; exact rfl; exact rfl; (exact tL); (exact tR3); (exact tS2); clear F; intro W F; simp only [List.cons_append, List.nil_append] at F))
      exact bodyPost_ret (res_c rfl rfl (Fr.get F tL) (rowArr _)) rfl ⟨by rw [HRR.out], F.below⟩
end
end Go.Proofs.YtpaodheilchfnaaGreatDoor
