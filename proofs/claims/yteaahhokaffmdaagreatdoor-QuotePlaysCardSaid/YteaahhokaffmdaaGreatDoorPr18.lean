/- What the laws lean on. -/
import Derived.Test.YteaahhokaffmdaaGreatDoorPr15
import Derived.Test.YteaahhokaffmdaaGreatDoorPr17
namespace Go.Proofs.YteaahhokaffmdaaGreatDoor
set_option linter.unusedVariables false
set_option linter.unusedSimpArgs false
section
open Go.RowKit
set_option maxHeartbeats 4000000
theorem zero15 : (0 : Int).natAbs < bp 15 := Nat.lt_of_lt_of_le (by decide) bp15_big
section
variable {x : Bool} {a : Nat} {y : Bool} {b : Nat}
def betB (v : Prop) [Decidable v] (n d lo hi : Int) : Bool := decide v && (decide (lo * d ≤ n) && decide (n ≤ hi * d))
theorem cmpZ_ge {p q : Int} : decide (0 ≤ cmpZ p q) = decide (q ≤ p) := by
  rw [decide_eq_decide]
  unfold cmpZ
  split
  · constructor <;> intro <;> omega
  · split
    · constructor <;> intro <;> omega
    · constructor <;> intro <;> omega
theorem cmpZ_le {p q : Int} : decide (cmpZ p q ≤ 0) = decide (p ≤ q) := by
  rw [decide_eq_decide]
  unfold cmpZ
  split
  · constructor <;> intro <;> omega
  · split
    · constructor <;> intro <;> omega
    · constructor <;> intro <;> omega
set_option maxRecDepth 100000 in
theorem rbetween_any (ha : a < bp 32) (hb : b < bp 32) {lo hi : Int} (l1 : -9223372036854775808 ≤ lo) (l2 : lo < 9223372036854775808) (u1 : -9223372036854775808 ≤ hi) (u2 : hi < 9223372036854775808) (hl : lo.natAbs < bp 15) (hh : hi.natAbs < bp 15) {f : Bool} (hf : betB (okR x a y b) (sZ x a) (sZ y b) lo hi = f) (w : World) : Calls Tryz.prog 116 #[.agg (ratC x a y b), .int .i64 lo, .int .i64 hi] w (RetB (.bool f) w) := by
  have F := Fr.start w
  unfold betB at hf
  by_cases h : okR x a y b
  · rw [decide_eq_true h, Bool.true_and] at hf
    have v1 := fun w => rvalid_any ha hb (decide_eq_true h) w
    obtain ⟨n, d, ⟨e, e1, e2⟩, hn, hd, -⟩ := okR_ints h
    rw [e1, e2] at hf
    have hz : okZ n d := by
      have e3 : intC x a ++ intC y b = intC (decide (n < 0)) n.natAbs ++ intC (decide (d < 0)) d.natAbs := e
      unfold okZ
      rw [← e1, ← e2]
      obtain ⟨-, -, hy, -, hx, -⟩ := okR_bound h
      subst hy
      have k1 : decide (sZ x a < 0) = x := by
        unfold sZ
        cases x
        · simp <;> omega
        · have := hx rfl; simp <;> omega
      have k2 : (sZ x a).natAbs = a := by unfold sZ; split <;> omega
      have k3 : decide (sZ false b < 0) = false := by unfold sZ; simp <;> omega
      have k4 : (sZ false b).natAbs = b := by unfold sZ; simp
      rw [k1, k2, k3, k4]
      exact h
    rw [e] at v1 ⊢
    have g1 := fun w => rwholeR l1 l2 w
    have g2 := fun w => rwholeR u1 u2 w
    have k1 := fun w => rcompareR hz (okZ_one hl) rfl w
    have k2 := fun w => rcompareR hz (okZ_one hh) rfl w
    rw [← cmpZ_ge, ← cmpZ_le (q := hi * d), ← Int.mul_one n] at hf
    generalize cmpZ (n * 1) (lo * d) = c1 at *
    generalize cmpZ (n * 1) (hi * d) = c2 at *
    clear h hn hd e1 e2 e hz l1 l2 u1 u2 hl hh
    by_cases h1 : 0 ≤ c1
    · rw [decide_eq_true h1, Bool.true_and] at hf
      have t1 : decide (0 ≤ c1) = true := decide_eq_true h1
      have HH := Lib.hid hf
      clear hf
      go_enter Tryz.func116, Tryz.ntmps116
      go_wp2_with (first | go_skip | refine aY3 ?_ | refine aN3 ?_)
      (clear F; intro b3 W F; try simp only [Act.put, z6, z1, z2])
      go_wp2_with (first | go_skip | refine aY3 ?_ | refine aN3 ?_)
      try simp only [Act.put, z6, z1, z2]
      refine wp_region_bm 17 (by kernel_rfl) rfl ?_
      replace F := F.drew
      revert F
      generalize World.drew _ = W
      intro F
      refine dg_one 0 1 (by kernel_rfl) rfl (by kernel_rfl) rfl (fun K hK => ?_)
      (simp only [z3, z4, z5])
      (first | ((with_reducible apply gL F); exact rfl; (exact tL); (exact tR3); go_simp) | ((refine ⟨?_⟩); go_simp))
      (refine hK _ _ ?_; clear hK K)
      refine dg_one 1 3 (by kernel_rfl) rfl (by kernel_rfl) rfl (fun K hK => ?_)
      (simp only [z3, z4, z5])
      ((refine ⟨?_⟩); go_simp; (first | ((with_reducible refine fr_call F (v1 _) ?_); (try clear F); (intro W F); (try dsimp only)) | ((with_reducible refine fr_call F (g1 _) ?_); (try clear F); (intro W F); (try dsimp only)) | ((with_reducible refine fr_call F (k1 _) ?_); (try clear F); (intro W F); (try dsimp only)) | ((with_reducible refine fr_call F (g2 _) ?_); (try clear F); (intro W F); (try dsimp only)) | ((with_reducible refine fr_call F (k2 _) ?_); (try clear F); (intro W F); (try dsimp only)) | skip))
      (refine hK _ _ ?_; clear hK K)
      refine dg_one 2 7 (by kernel_rfl) rfl (by kernel_rfl) rfl (fun K hK => ?_)
      (simp only [z3, z4, z5])
      ((refine ⟨?_⟩); go_simp)
      (refine hK _ _ ?_; clear hK K)
      (refine dg_take 4 11 23 (v := ?_) rfl (by kernel_rfl) (by kernel_rfl) (by kernel_rfl) (by kernel_rfl) (by kernel_rfl) (fun _ _ _ h => h) (Or.inl ⟨by kernel_rfl, ?_⟩) ?_; rotate_left; (focus (intro w; go_simp; try (with_reducible rfl))); (simp only [z1, z2]))
      apply dg_meet (f' := 11) (m' := 63)
      · intro M
        refine dg_ready [3, 5] (by kernel_rfl) rfl ?_
        refine dg_want 3 31 rfl (by kernel_rfl) rfl (fun K hK => ?_) ?_
        · skip
          (simp only [z3, z4, z5])
          (first | ((with_reducible apply gL F); exact rfl; (exact tL); (exact tR3); go_simp) | ((refine ⟨?_⟩); go_simp))
          (refine hK _ _ ?_; clear hK K)
          refine dg_one 5 63 (by kernel_rfl) rfl (by kernel_rfl) rfl (fun K hK => ?_)
          (simp only [z3, z4, z5])
          ((refine ⟨?_⟩); go_simp; (first | ((with_reducible refine fr_call F (v1 _) ?_); (try clear F); (intro W F); (try dsimp only)) | ((with_reducible refine fr_call F (g1 _) ?_); (try clear F); (intro W F); (try dsimp only)) | ((with_reducible refine fr_call F (k1 _) ?_); (try clear F); (intro W F); (try dsimp only)) | ((with_reducible refine fr_call F (g2 _) ?_); (try clear F); (intro W F); (try dsimp only)) | ((with_reducible refine fr_call F (k2 _) ?_); (try clear F); (intro W F); (try dsimp only)) | skip))
          (refine hK _ _ ?_; clear hK K)
          exact M _ F
        refine dg_want 5 55 rfl (by kernel_rfl) rfl (fun K hK => ?_) ?_
        · skip
          (simp only [z3, z4, z5])
          ((refine ⟨?_⟩); go_simp; (first | ((with_reducible refine fr_call F (v1 _) ?_); (try clear F); (intro W F); (try dsimp only)) | ((with_reducible refine fr_call F (g1 _) ?_); (try clear F); (intro W F); (try dsimp only)) | ((with_reducible refine fr_call F (k1 _) ?_); (try clear F); (intro W F); (try dsimp only)) | ((with_reducible refine fr_call F (g2 _) ?_); (try clear F); (intro W F); (try dsimp only)) | ((with_reducible refine fr_call F (k2 _) ?_); (try clear F); (intro W F); (try dsimp only)) | skip))
          (refine hK _ _ ?_; clear hK K)
          refine dg_one 3 63 (by kernel_rfl) rfl (by kernel_rfl) rfl (fun K hK => ?_)
          (simp only [z3, z4, z5])
          (first | ((with_reducible apply gL F); exact rfl; (exact tL); (exact tR3); go_simp) | ((refine ⟨?_⟩); go_simp))
          (refine hK _ _ ?_; clear hK K)
          exact M _ F
        exact dg_nil
      clear F
      intro W F
      refine dg_one 6 127 (by kernel_rfl) rfl (by kernel_rfl) rfl (fun K hK => ?_)
      (simp only [z3, z4, z5])
      ((refine ⟨?_⟩); go_simp; (first | ((with_reducible refine fr_call F (v1 _) ?_); (try clear F); (intro W F); (try dsimp only)) | ((with_reducible refine fr_call F (g1 _) ?_); (try clear F); (intro W F); (try dsimp only)) | ((with_reducible refine fr_call F (k1 _) ?_); (try clear F); (intro W F); (try dsimp only)) | ((with_reducible refine fr_call F (g2 _) ?_); (try clear F); (intro W F); (try dsimp only)) | ((with_reducible refine fr_call F (k2 _) ?_); (try clear F); (intro W F); (try dsimp only)) | skip))
      (refine hK _ _ ?_; clear hK K)
      refine dg_one 7 255 (by kernel_rfl) rfl (by kernel_rfl) rfl (fun K hK => ?_)
      (simp only [z3, z4, z5])
      ((refine ⟨?_⟩); go_simp)
      (refine hK _ _ ?_; clear hK K)
      refine dg_one 8 511 (by kernel_rfl) rfl (by kernel_rfl) rfl (fun K hK => ?_)
      (simp only [z3, z4, z5])
      ((refine ⟨?_⟩); go_simp)
      (refine hK _ _ ?_; clear hK K)
      refine dg_one 9 1023 (by kernel_rfl) rfl (by kernel_rfl) rfl (fun K hK => ?_)
      (simp only [z3, z4, z5])
      ((refine ⟨?_⟩); go_simp)
      (refine hK _ _ ?_; clear hK K)
      (refine dg_take 11 18 3071 (v := ?_) rfl (by kernel_rfl) (by kernel_rfl) (by kernel_rfl) (by kernel_rfl) (by kernel_rfl) (fun _ _ _ h => h) (Or.inl ⟨by kernel_rfl, ?_⟩) ?_; rotate_left; (focus (intro w; go_simp; try (with_reducible rfl))); (simp only [z1, z2]))
      apply dg_meet (f' := 4) (m' := 8191)
      · intro M
        refine dg_ready [10, 12] (by kernel_rfl) rfl ?_
        refine dg_want 10 4095 rfl (by kernel_rfl) rfl (fun K hK => ?_) ?_
        · skip
          (simp only [z3, z4, z5])
          (first | ((with_reducible apply gL F); exact rfl; (exact tL); (exact tR3); go_simp) | ((refine ⟨?_⟩); go_simp))
          (refine hK _ _ ?_; clear hK K)
          refine dg_one 12 8191 (by kernel_rfl) rfl (by kernel_rfl) rfl (fun K hK => ?_)
          (simp only [z3, z4, z5])
          ((refine ⟨?_⟩); go_simp; (first | ((with_reducible refine fr_call F (v1 _) ?_); (try clear F); (intro W F); (try dsimp only)) | ((with_reducible refine fr_call F (g1 _) ?_); (try clear F); (intro W F); (try dsimp only)) | ((with_reducible refine fr_call F (k1 _) ?_); (try clear F); (intro W F); (try dsimp only)) | ((with_reducible refine fr_call F (g2 _) ?_); (try clear F); (intro W F); (try dsimp only)) | ((with_reducible refine fr_call F (k2 _) ?_); (try clear F); (intro W F); (try dsimp only)) | skip))
          (refine hK _ _ ?_; clear hK K)
          exact M _ F
        refine dg_want 12 7167 rfl (by kernel_rfl) rfl (fun K hK => ?_) ?_
        · skip
          (simp only [z3, z4, z5])
          ((refine ⟨?_⟩); go_simp; (first | ((with_reducible refine fr_call F (v1 _) ?_); (try clear F); (intro W F); (try dsimp only)) | ((with_reducible refine fr_call F (g1 _) ?_); (try clear F); (intro W F); (try dsimp only)) | ((with_reducible refine fr_call F (k1 _) ?_); (try clear F); (intro W F); (try dsimp only)) | ((with_reducible refine fr_call F (g2 _) ?_); (try clear F); (intro W F); (try dsimp only)) | ((with_reducible refine fr_call F (k2 _) ?_); (try clear F); (intro W F); (try dsimp only)) | skip))
          (refine hK _ _ ?_; clear hK K)
          refine dg_one 10 8191 (by kernel_rfl) rfl (by kernel_rfl) rfl (fun K hK => ?_)
          (simp only [z3, z4, z5])
          (first | ((with_reducible apply gL F); exact rfl; (exact tL); (exact tR3); go_simp) | ((refine ⟨?_⟩); go_simp))
          (refine hK _ _ ?_; clear hK K)
          exact M _ F
        exact dg_nil
      clear F
      intro W F
      refine dg_one 13 16383 (by kernel_rfl) rfl (by kernel_rfl) rfl (fun K hK => ?_)
      (simp only [z3, z4, z5])
      ((refine ⟨?_⟩); go_simp; (first | ((with_reducible refine fr_call F (v1 _) ?_); (try clear F); (intro W F); (try dsimp only)) | ((with_reducible refine fr_call F (g1 _) ?_); (try clear F); (intro W F); (try dsimp only)) | ((with_reducible refine fr_call F (k1 _) ?_); (try clear F); (intro W F); (try dsimp only)) | ((with_reducible refine fr_call F (g2 _) ?_); (try clear F); (intro W F); (try dsimp only)) | ((with_reducible refine fr_call F (k2 _) ?_); (try clear F); (intro W F); (try dsimp only)) | skip))
      (refine hK _ _ ?_; clear hK K)
      refine dg_one 14 32767 (by kernel_rfl) rfl (by kernel_rfl) rfl (fun K hK => ?_)
      (simp only [z3, z4, z5])
      ((refine ⟨?_⟩); go_simp)
      (refine hK _ _ ?_; clear hK K)
      refine dg_one 15 65535 (by kernel_rfl) rfl (by kernel_rfl) rfl (fun K hK => ?_)
      (simp only [z3, z4, z5])
      ((refine ⟨?_⟩); go_simp)
      (refine hK _ _ ?_; clear hK K)
      refine dg_one 16 131071 (by kernel_rfl) rfl (by kernel_rfl) rfl (fun K hK => ?_)
      (simp only [z3, z4, z5])
      ((refine ⟨?_⟩); go_simp)
      (refine hK _ _ ?_; clear hK K)
      refine dg_end (by kernel_rfl) ?_ _
      go_wp2_with (first | go_skip | refine aY3 ?_ | refine aN3 ?_)
      go_ret
      exact ⟨ret_bool HH.out, F.below⟩
    · rw [decide_eq_false h1, Bool.false_and] at hf
      have t1 : decide (0 ≤ c1) = false := decide_eq_false h1
      subst hf
      go_enter Tryz.func116, Tryz.ntmps116
      go_wp2_with (first | go_skip | refine aY3 ?_ | refine aN3 ?_)
      (clear F; intro b3 W F; try simp only [Act.put, z6, z1, z2])
      go_wp2_with (first | go_skip | refine aY3 ?_ | refine aN3 ?_)
      try simp only [Act.put, z6, z1, z2]
      refine wp_region_bm 17 (by kernel_rfl) rfl ?_
      replace F := F.drew
      revert F
      generalize World.drew _ = W
      intro F
      refine dg_one 0 1 (by kernel_rfl) rfl (by kernel_rfl) rfl (fun K hK => ?_)
      (simp only [z3, z4, z5])
      (first | ((with_reducible apply gL F); exact rfl; (exact tL); (exact tR3); go_simp) | ((refine ⟨?_⟩); go_simp))
      (refine hK _ _ ?_; clear hK K)
      refine dg_one 1 3 (by kernel_rfl) rfl (by kernel_rfl) rfl (fun K hK => ?_)
      (simp only [z3, z4, z5])
      ((refine ⟨?_⟩); go_simp; (first | ((with_reducible refine fr_call F (v1 _) ?_); (try clear F); (intro W F); (try dsimp only)) | ((with_reducible refine fr_call F (g1 _) ?_); (try clear F); (intro W F); (try dsimp only)) | ((with_reducible refine fr_call F (k1 _) ?_); (try clear F); (intro W F); (try dsimp only)) | skip))
      (refine hK _ _ ?_; clear hK K)
      refine dg_one 2 7 (by kernel_rfl) rfl (by kernel_rfl) rfl (fun K hK => ?_)
      (simp only [z3, z4, z5])
      ((refine ⟨?_⟩); go_simp)
      (refine hK _ _ ?_; clear hK K)
      (refine dg_take 4 11 23 (v := ?_) rfl (by kernel_rfl) (by kernel_rfl) (by kernel_rfl) (by kernel_rfl) (by kernel_rfl) (fun _ _ _ h => h) (Or.inl ⟨by kernel_rfl, ?_⟩) ?_; rotate_left; (focus (intro w; go_simp; try (with_reducible rfl))); (simp only [z1, z2]))
      apply dg_meet (f' := 11) (m' := 63)
      · intro M
        refine dg_ready [3, 5] (by kernel_rfl) rfl ?_
        refine dg_want 3 31 rfl (by kernel_rfl) rfl (fun K hK => ?_) ?_
        · skip
          (simp only [z3, z4, z5])
          (first | ((with_reducible apply gL F); exact rfl; (exact tL); (exact tR3); go_simp) | ((refine ⟨?_⟩); go_simp))
          (refine hK _ _ ?_; clear hK K)
          refine dg_one 5 63 (by kernel_rfl) rfl (by kernel_rfl) rfl (fun K hK => ?_)
          (simp only [z3, z4, z5])
          ((refine ⟨?_⟩); go_simp; (first | ((with_reducible refine fr_call F (v1 _) ?_); (try clear F); (intro W F); (try dsimp only)) | ((with_reducible refine fr_call F (g1 _) ?_); (try clear F); (intro W F); (try dsimp only)) | ((with_reducible refine fr_call F (k1 _) ?_); (try clear F); (intro W F); (try dsimp only)) | skip))
          (refine hK _ _ ?_; clear hK K)
          exact M _ F
        refine dg_want 5 55 rfl (by kernel_rfl) rfl (fun K hK => ?_) ?_
        · skip
          (simp only [z3, z4, z5])
          ((refine ⟨?_⟩); go_simp; (first | ((with_reducible refine fr_call F (v1 _) ?_); (try clear F); (intro W F); (try dsimp only)) | ((with_reducible refine fr_call F (g1 _) ?_); (try clear F); (intro W F); (try dsimp only)) | ((with_reducible refine fr_call F (k1 _) ?_); (try clear F); (intro W F); (try dsimp only)) | skip))
          (refine hK _ _ ?_; clear hK K)
          refine dg_one 3 63 (by kernel_rfl) rfl (by kernel_rfl) rfl (fun K hK => ?_)
          (simp only [z3, z4, z5])
          (first | ((with_reducible apply gL F); exact rfl; (exact tL); (exact tR3); go_simp) | ((refine ⟨?_⟩); go_simp))
          (refine hK _ _ ?_; clear hK K)
          exact M _ F
        exact dg_nil
      clear F
      intro W F
      refine dg_one 6 127 (by kernel_rfl) rfl (by kernel_rfl) rfl (fun K hK => ?_)
      (simp only [z3, z4, z5])
      ((refine ⟨?_⟩); go_simp; (first | ((with_reducible refine fr_call F (v1 _) ?_); (try clear F); (intro W F); (try dsimp only)) | ((with_reducible refine fr_call F (g1 _) ?_); (try clear F); (intro W F); (try dsimp only)) | ((with_reducible refine fr_call F (k1 _) ?_); (try clear F); (intro W F); (try dsimp only)) | skip))
      (refine hK _ _ ?_; clear hK K)
      refine dg_one 7 255 (by kernel_rfl) rfl (by kernel_rfl) rfl (fun K hK => ?_)
      (simp only [z3, z4, z5])
      ((refine ⟨?_⟩); go_simp)
      (refine hK _ _ ?_; clear hK K)
      refine dg_one 8 511 (by kernel_rfl) rfl (by kernel_rfl) rfl (fun K hK => ?_)
      (simp only [z3, z4, z5])
      ((refine ⟨?_⟩); go_simp)
      (refine hK _ _ ?_; clear hK K)
      refine dg_one 9 1023 (by kernel_rfl) rfl (by kernel_rfl) rfl (fun K hK => ?_)
      (simp only [z3, z4, z5])
      ((refine ⟨?_⟩); go_simp)
      (refine hK _ _ ?_; clear hK K)
      apply dg_meet (f' := 4) (m' := 8191)
      · intro M
        refine dg_ready [10, 11] (by kernel_rfl) rfl ?_
        refine dg_skip 10 2047 rfl (by kernel_rfl) rfl ?_ ?_
        · (simp only [Act.put, z3, z4, z5, z6, z1, z2])
          refine dg_oneS 11 4095 (by kernel_rfl) rfl (by kernel_rfl) rfl ?_
          (simp only [Act.put, z3, z4, z5, z6, z1, z2])
          refine dg_oneS 12 8191 (by kernel_rfl) rfl (by kernel_rfl) rfl ?_
          (simp only [Act.put, z3, z4, z5, z6, z1, z2])
          exact M _ F
        refine dg_skip 11 3071 rfl (by kernel_rfl) rfl ?_ ?_
        · (simp only [Act.put, z3, z4, z5, z6, z1, z2])
          refine dg_ready [10, 12] (by kernel_rfl) rfl ?_
          refine dg_skip 10 4095 rfl (by kernel_rfl) rfl ?_ ?_
          · (simp only [Act.put, z3, z4, z5, z6, z1, z2])
            refine dg_oneS 12 8191 (by kernel_rfl) rfl (by kernel_rfl) rfl ?_
            (simp only [Act.put, z3, z4, z5, z6, z1, z2])
            exact M _ F
          refine dg_skip 12 7167 rfl (by kernel_rfl) rfl ?_ ?_
          · (simp only [Act.put, z3, z4, z5, z6, z1, z2])
            refine dg_oneS 10 8191 (by kernel_rfl) rfl (by kernel_rfl) rfl ?_
            (simp only [Act.put, z3, z4, z5, z6, z1, z2])
            exact M _ F
          exact dg_nil
        exact dg_nil
      clear F
      intro W F
      refine dg_oneS 13 16383 (by kernel_rfl) rfl (by kernel_rfl) rfl ?_
      (simp only [Act.put, z3, z4, z5, z6, z1, z2])
      refine dg_oneS 14 32767 (by kernel_rfl) rfl (by kernel_rfl) rfl ?_
      (simp only [Act.put, z3, z4, z5, z6, z1, z2])
      refine dg_one 15 65535 (by kernel_rfl) rfl (by kernel_rfl) rfl (fun K hK => ?_)
      (simp only [z3, z4, z5])
      ((refine ⟨?_⟩); go_simp)
      (refine hK _ _ ?_; clear hK K)
      refine dg_one 16 131071 (by kernel_rfl) rfl (by kernel_rfl) rfl (fun K hK => ?_)
      (simp only [z3, z4, z5])
      ((refine ⟨?_⟩); go_simp)
      (refine hK _ _ ?_; clear hK K)
      refine dg_end (by kernel_rfl) ?_ _
      go_wp2_with (first | go_skip | refine aY3 ?_ | refine aN3 ?_)
      go_ret
      exact ⟨rfl, F.below⟩
  · rw [decide_eq_false h, Bool.false_and] at hf
    subst hf
    have v1 := fun w => rvalid_any ha hb (decide_eq_false h) w
    clear h l1 l2 u1 u2 hl hh
    go_enter Tryz.func116, Tryz.ntmps116
    go_wp2_with (first | go_skip | refine aY3 ?_ | refine aN3 ?_)
    (clear F; intro b3 W F; try simp only [Act.put, z6, z1, z2])
    go_wp2_with (first | go_skip | refine aY3 ?_ | refine aN3 ?_)
    try simp only [Act.put, z6, z1, z2]
    refine wp_region_bm 17 (by kernel_rfl) rfl ?_
    replace F := F.drew
    revert F
    generalize World.drew _ = W
    intro F
    refine dg_one 0 1 (by kernel_rfl) rfl (by kernel_rfl) rfl (fun K hK => ?_)
    (simp only [z3, z4, z5])
    (first | ((with_reducible apply gL F); exact rfl; (exact tL); (exact tR3); go_simp) | ((refine ⟨?_⟩); go_simp))
    (refine hK _ _ ?_; clear hK K)
    refine dg_one 1 3 (by kernel_rfl) rfl (by kernel_rfl) rfl (fun K hK => ?_)
    (simp only [z3, z4, z5])
    ((refine ⟨?_⟩); go_simp; (first | ((with_reducible refine fr_call F (v1 _) ?_); (try clear F); (intro W F); (try dsimp only)) | skip))
    (refine hK _ _ ?_; clear hK K)
    refine dg_one 2 7 (by kernel_rfl) rfl (by kernel_rfl) rfl (fun K hK => ?_)
    (simp only [z3, z4, z5])
    ((refine ⟨?_⟩); go_simp)
    (refine hK _ _ ?_; clear hK K)
    apply dg_meet (f' := 11) (m' := 63)
    · intro M
      refine dg_ready [3, 4] (by kernel_rfl) rfl ?_
      refine dg_skip 3 15 rfl (by kernel_rfl) rfl ?_ ?_
      · (simp only [Act.put, z3, z4, z5, z6, z1, z2])
        refine dg_oneS 4 31 (by kernel_rfl) rfl (by kernel_rfl) rfl ?_
        (simp only [Act.put, z3, z4, z5, z6, z1, z2])
        refine dg_oneS 5 63 (by kernel_rfl) rfl (by kernel_rfl) rfl ?_
        (simp only [Act.put, z3, z4, z5, z6, z1, z2])
        exact M _ F
      refine dg_skip 4 23 rfl (by kernel_rfl) rfl ?_ ?_
      · (simp only [Act.put, z3, z4, z5, z6, z1, z2])
        refine dg_ready [3, 5] (by kernel_rfl) rfl ?_
        refine dg_skip 3 31 rfl (by kernel_rfl) rfl ?_ ?_
        · (simp only [Act.put, z3, z4, z5, z6, z1, z2])
          refine dg_oneS 5 63 (by kernel_rfl) rfl (by kernel_rfl) rfl ?_
          (simp only [Act.put, z3, z4, z5, z6, z1, z2])
          exact M _ F
        refine dg_skip 5 55 rfl (by kernel_rfl) rfl ?_ ?_
        · (simp only [Act.put, z3, z4, z5, z6, z1, z2])
          refine dg_oneS 3 63 (by kernel_rfl) rfl (by kernel_rfl) rfl ?_
          (simp only [Act.put, z3, z4, z5, z6, z1, z2])
          exact M _ F
        exact dg_nil
      exact dg_nil
    clear F
    intro W F
    refine dg_oneS 6 127 (by kernel_rfl) rfl (by kernel_rfl) rfl ?_
    (simp only [Act.put, z3, z4, z5, z6, z1, z2])
    refine dg_oneS 7 255 (by kernel_rfl) rfl (by kernel_rfl) rfl ?_
    (simp only [Act.put, z3, z4, z5, z6, z1, z2])
    refine dg_one 8 511 (by kernel_rfl) rfl (by kernel_rfl) rfl (fun K hK => ?_)
    (simp only [z3, z4, z5])
    ((refine ⟨?_⟩); go_simp)
    (refine hK _ _ ?_; clear hK K)
    refine dg_one 9 1023 (by kernel_rfl) rfl (by kernel_rfl) rfl (fun K hK => ?_)
    (simp only [z3, z4, z5])
    ((refine ⟨?_⟩); go_simp)
    (refine hK _ _ ?_; clear hK K)
    apply dg_meet (f' := 4) (m' := 8191)
    · intro M
      refine dg_ready [10, 11] (by kernel_rfl) rfl ?_
      refine dg_skip 10 2047 rfl (by kernel_rfl) rfl ?_ ?_
      · (simp only [Act.put, z3, z4, z5, z6, z1, z2])
        refine dg_oneS 11 4095 (by kernel_rfl) rfl (by kernel_rfl) rfl ?_
        (simp only [Act.put, z3, z4, z5, z6, z1, z2])
        refine dg_oneS 12 8191 (by kernel_rfl) rfl (by kernel_rfl) rfl ?_
        (simp only [Act.put, z3, z4, z5, z6, z1, z2])
        exact M _ F
      refine dg_skip 11 3071 rfl (by kernel_rfl) rfl ?_ ?_
      · (simp only [Act.put, z3, z4, z5, z6, z1, z2])
        refine dg_ready [10, 12] (by kernel_rfl) rfl ?_
        refine dg_skip 10 4095 rfl (by kernel_rfl) rfl ?_ ?_
        · (simp only [Act.put, z3, z4, z5, z6, z1, z2])
          refine dg_oneS 12 8191 (by kernel_rfl) rfl (by kernel_rfl) rfl ?_
          (simp only [Act.put, z3, z4, z5, z6, z1, z2])
          exact M _ F
        refine dg_skip 12 7167 rfl (by kernel_rfl) rfl ?_ ?_
        · (simp only [Act.put, z3, z4, z5, z6, z1, z2])
          refine dg_oneS 10 8191 (by kernel_rfl) rfl (by kernel_rfl) rfl ?_
          (simp only [Act.put, z3, z4, z5, z6, z1, z2])
          exact M _ F
        exact dg_nil
      exact dg_nil
    clear F
    intro W F
    refine dg_oneS 13 16383 (by kernel_rfl) rfl (by kernel_rfl) rfl ?_
    (simp only [Act.put, z3, z4, z5, z6, z1, z2])
    refine dg_oneS 14 32767 (by kernel_rfl) rfl (by kernel_rfl) rfl ?_
    (simp only [Act.put, z3, z4, z5, z6, z1, z2])
    refine dg_one 15 65535 (by kernel_rfl) rfl (by kernel_rfl) rfl (fun K hK => ?_)
    (simp only [z3, z4, z5])
    ((refine ⟨?_⟩); go_simp)
    (refine hK _ _ ?_; clear hK K)
    refine dg_one 16 131071 (by kernel_rfl) rfl (by kernel_rfl) rfl (fun K hK => ?_)
    (simp only [z3, z4, z5])
    ((refine ⟨?_⟩); go_simp)
    (refine hK _ _ ?_; clear hK K)
    refine dg_end (by kernel_rfl) ?_ _
    go_wp2_with (first | go_skip | refine aY3 ?_ | refine aN3 ?_)
    go_ret
    exact ⟨rfl, F.below⟩
def price0 (v : Prop) [Decidable v] (n d : Int) : Bool := decide ((txtR v n d 6).2 = 0) && betB v n d 0 1000000000
set_option maxRecDepth 100000 in
theorem rpriceOK_any (ha : a < bp 32) (hb : b < bp 32) {f : Bool} (hf : price0 (okR x a y b) (sZ x a) (sZ y b) = f) (w : World) : Calls Tryz.prog 73 #[.agg (ratC x a y b)] w (RetB (.bool f) w) := by
  have F := Fr.start w
  unfold price0 at hf
  obtain ⟨t, ht⟩ : ∃ t, txtR (okR x a y b) (sZ x a) (sZ y b) 6 = t := ⟨_, rfl⟩
  obtain ⟨c, hc⟩ : ∃ c, betB (okR x a y b) (sZ x a) (sZ y b) 0 1000000000 = c := ⟨_, rfl⟩
  have g1 := fun w => rtext_any ha hb ht w
  have g2 := fun w => rbetween_any ha hb (by decide) (by decide) (by decide) (by decide) zero15 ten9 hc w
  rw [ht, hc] at hf
  obtain ⟨ts, te⟩ := t
  dsimp only at g1 hf
  have HF := Lib.hid hf
  clear hf ht hc ha hb
  generalize bs ts = tt at *
  by_cases h0 : te = 0
  · subst h0
    go_enter Tryz.func73, Tryz.ntmps73
    go_wp2_with (first | go_skip | refine aY3 ?_ | refine aN3 ?_)
    (clear F; intro b1 W F; try simp only [Act.put, z6, z1, z2])
    go_wp2_with (first | go_skip | ((go_at_call 56); (with_reducible refine fr_call F (g1 _) ?_); (clear F; intro W F); (try dsimp only)) | ((go_at_call 116); (with_reducible refine fr_call F (g2 _) ?_); (clear F; intro W F); (try dsimp only)) | refine aY3 ?_ | refine aN3 ?_)
    go_ret
    exact ⟨ret_bool (by rw [← HF.out]; rfl), F.below⟩
  · have t0 : (te == 0) = false := by rw [beq_eq_false_iff_ne]; exact h0
    have hr : false = f := by rw [← HF.out, decide_eq_false h0, Bool.false_and]
    subst hr
    clear h0
    go_enter Tryz.func73, Tryz.ntmps73
    go_wp2_with (first | go_skip | refine aY3 ?_ | refine aN3 ?_)
    (clear F; intro b1 W F; try simp only [Act.put, z6, z1, z2])
    go_wp2_with (first | go_skip | ((go_at_call 56); (with_reducible refine fr_call F (g1 _) ?_); (clear F; intro W F); (try dsimp only)) | refine aY3 ?_ | refine aN3 ?_)
    go_ret
    exact ⟨rfl, F.below⟩
theorem price_doc {n d : Int} : (price0 (okR x a y b) n d && !(decide (n = 0))) = priceB (okR x a y b) n d := by
  unfold price0 betB priceB
  by_cases h : okR x a y b
  · rw [decide_eq_true h, Bool.true_and, Bool.eq_iff_iff]
    simp
    constructor
    · rintro ⟨⟨h0, h1, h2⟩, h3⟩; exact ⟨h0, by omega, h2⟩
    · rintro ⟨h0, h1, h2⟩; exact ⟨⟨h0, by omega, h2⟩, by omega⟩
  · rw [txt_no h]
    rfl
end
end
section
section
open Go.RowKit
set_option maxHeartbeats 400000 in
theorem refUsable_any (s : ByteArray) (w : World) (hs : s.size ≤ maxLen) : Calls Tryz.prog 114 #[.string s] w (RetW (.bool (nameB s.data.toList)) w) := by
  unfold maxLen at hs
  by_cases h0 : s.size = 0
  · rw [nameB_empty s h0]
    go_enter Tryz.func114, Tryz.ntmps114
    go_wp2
    go_ret
    exact ⟨rfl, rfl⟩
  · have hpos : 0 < s.size := by omega
    clear h0
    by_cases hl : s.size ≤ 16
    · cases hd : digB s[0]
      · have hdd : ¬ (48 ≤ (s[0].toNat : Int)) ∨ ¬ ((s[0].toNat : Int) ≤ 57) := by unfold digB at hd; simp at hd; omega
        rcases hdd with hdd | hdd
        all_goals
          go_enter Tryz.func114, Tryz.ntmps114
          go_wp2
          go_loop [3] (fun i => ∃ k : Nat, k ≤ s.size ∧ i = .int .i64 k ∧ nameChars (s.data.toList.take k) = true) (fun i => s.size - (intOf i).toNat)
          case atStart => exact ⟨0, Nat.zero_le _, rfl, rfl⟩
          case round =>
            obtain ⟨k, hk, rfl, hp⟩ := hrel
            have HP := Lib.hid hp
            clear hp
            by_cases hlt : k < s.size
            · go_wp2
              all_goals first
                | (go_ret; exact ⟨ret_bool (nameB_chars s (nameChars_bad s k hlt (by unfold lowB digB; simp; omega))).symm, rfl⟩)
                | (go_round; (case rel => exact ⟨k + 1, by omega, by go_num, nameChars_snoc s k hlt (by unfold lowB digB; simp; omega) HP.out⟩); (case measure => simp [intOf]; omega))
            · go_wp2
              go_ret
              refine ⟨ret_bool ?_, rfl⟩
              have ha : nameChars s.data.toList = true := by have := HP.out; rwa [List.take_of_length_le (by simp; omega)] at this
              rw [nameB_good s hpos hl (low_of s hpos hd ha) ha]
      · rw [nameB_digit s hpos hd]
        have hd1 : 48 ≤ (s[0].toNat : Int) := by unfold digB at hd; simp at hd; omega
        have hd2 : (s[0].toNat : Int) ≤ 57 := by unfold digB at hd; simp at hd; omega
        go_enter Tryz.func114, Tryz.ntmps114
        go_wp2
        go_ret
        exact ⟨rfl, rfl⟩
    · rw [nameB_long s hl]
      go_enter Tryz.func114, Tryz.ntmps114
      go_wp2
      go_ret
      exact ⟨rfl, rfl⟩
end
end
section
open Go.RowKit
set_option maxHeartbeats 400000
theorem rcapital_any (x : Nat) {b : Bool} (hb : decide (65 ≤ x ∧ x ≤ 90) = b) (w : World) : Calls Tryz.prog 115 #[.int .u8 (x : Int)] w (RetW (.bool b) w) := by
  have HB := Lib.hid hb
  clear hb
  go_enter Tryz.func115, Tryz.ntmps115
  go_wp2
  all_goals go_ret
  all_goals exact ⟨ret_bool (by rw [← HB.out, Bool.eq_iff_iff]; simp; omega), rfl⟩
theorem qknownOK_any {n : Int} {b : Bool} (hb : knB n = b) (w : World) : Calls Tryz.prog 52 #[.int .i64 n] w (RetB (.bool b) w) := by
  have HB := Lib.hid hb
  clear hb
  go_enter Tryz.func52, Tryz.ntmps52
  go_wp2
  all_goals go_ret
  all_goals exact ⟨ret_bool (by rw [← HB.out, Bool.eq_iff_iff, knB_iff]; simp; omega), Below.refl _ _⟩
theorem rname_any (s : ByteArray) (hs : s.size ≤ maxLen) {b : Bool} (hb : nameB s.data.toList = b) (w : World) : Calls Tryz.prog 69 #[.string s] w (RetB (.bool b) w) := by
  subst hb
  go_enter Tryz.func69, Tryz.ntmps69
  go_wp2_with (go_at_call 114; refine (refUsable_any s _ hs).mono ?_; rintro e w' ⟨rfl, rfl⟩)
  go_ret
  exact ⟨rfl, Below.refl _ _⟩
theorem code3 (s : ByteArray) (h : s.size = 3) (h0 : 0 < s.size) (h1 : 1 < s.size) (h2 : 2 < s.size) : codeB s.data.toList = (capL s[0] && (capL s[1] && capL s[2])) := by
  obtain ⟨⟨l⟩⟩ := s
  match l, h with
  | [a, b, c], _ => simp [codeB]; rfl
theorem rcode_any (s : ByteArray) (hs : s.size ≤ maxLen) {b : Bool} (hb : codeB s.data.toList = b) (w : World) : Calls Tryz.prog 71 #[.string s] w (RetB (.bool b) w) := by
  by_cases h3 : s.size = 3
  · have h0 : 0 < s.size := by omega
    have h1 : 1 < s.size := by omega
    have h2 : 2 < s.size := by omega
    rw [code3 s h3 h0 h1 h2] at hb
    have t3 : ((s.size : Int) == 3) = true := by rw [beq_iff_eq]; omega
    unfold capL at hb
    obtain ⟨c0, hc0⟩ : ∃ c, decide (65 ≤ s[0].toNat ∧ s[0].toNat ≤ 90) = c := ⟨_, rfl⟩
    obtain ⟨c1, hc1⟩ : ∃ c, decide (65 ≤ s[1].toNat ∧ s[1].toNat ≤ 90) = c := ⟨_, rfl⟩
    obtain ⟨c2, hc2⟩ : ∃ c, decide (65 ≤ s[2].toNat ∧ s[2].toNat ≤ 90) = c := ⟨_, rfl⟩
    have g0 := fun w => rcapital_any _ hc0 w
    have g1 := fun w => rcapital_any _ hc1 w
    have g2 := fun w => rcapital_any _ hc2 w
    rw [hc0, hc1, hc2] at hb
    clear hc0 hc1 hc2 h3
    subst hb
    cases c0
    · go_enter Tryz.func71, Tryz.ntmps71
      go_wp2_with (go_at_call 115; (first | (with_reducible refine (g0 _).mono ?_) | (with_reducible refine (g1 _).mono ?_) | (with_reducible refine (g2 _).mono ?_)); rintro e w' ⟨rfl, rfl⟩)
      go_ret
      exact ⟨rfl, Below.refl _ _⟩
    · cases c1
      · go_enter Tryz.func71, Tryz.ntmps71
        go_wp2_with (go_at_call 115; (first | (with_reducible refine (g0 _).mono ?_) | (with_reducible refine (g1 _).mono ?_) | (with_reducible refine (g2 _).mono ?_)); rintro e w' ⟨rfl, rfl⟩)
        go_ret
        exact ⟨rfl, Below.refl _ _⟩
      · go_enter Tryz.func71, Tryz.ntmps71
        go_wp2_with (go_at_call 115; (first | (with_reducible refine (g0 _).mono ?_) | (with_reducible refine (g1 _).mono ?_) | (with_reducible refine (g2 _).mono ?_)); rintro e w' ⟨rfl, rfl⟩)
        go_ret
        exact ⟨rfl, Below.refl _ _⟩
  · rw [codeN s h3] at hb
    subst hb
    have t3 : ((s.size : Int) == 3) = false := by rw [beq_eq_false_iff_ne]; omega
    clear h3
    unfold maxLen at hs
    go_enter Tryz.func71, Tryz.ntmps71
    go_wp2
    go_ret
    exact ⟨rfl, Below.refl _ _⟩
theorem paper_long (s : ByteArray) (h : ¬ s.size ≤ 12) : paperB s.data.toList = false := by
  have hl : s.data.toList.length = s.size := by simp
  unfold paperB
  rw [hl, decide_eq_false h, Bool.and_false]
theorem paper_short (s : ByteArray) (h : s.size ≤ 12) : paperB s.data.toList = capsB s.data.toList := by
  have hl : s.data.toList.length = s.size := by simp
  unfold paperB
  rw [hl, decide_eq_true h, Bool.and_true]
theorem rpaper_any (s : ByteArray) (hs : s.size ≤ maxLen) {b : Bool} (hb : paperB s.data.toList = b) (w : World) : Calls Tryz.prog 70 #[.string s] w (RetB (.bool b) w) := by
  unfold maxLen at hs
  by_cases h0 : s.size = 0
  · obtain rfl : false = b := by rw [← hb, paper_short s (by omega), capsB_empty s h0]
    clear hb
    go_enter Tryz.func70, Tryz.ntmps70
    go_wp2
    go_ret
    exact ⟨rfl, Below.refl _ _⟩
  have hpos : 0 < s.size := by omega
  clear h0
  by_cases hl : s.size ≤ 12
  · rw [paper_short s hl] at hb
    have HB := Lib.hid hb
    clear hb
    cases hc : capL s[0]
    · obtain rfl : false = b := by rw [← HB.out, capsB_first s hpos hc]
      have g1 := fun w => rcapital_any s[0].toNat hc w
      go_enter Tryz.func70, Tryz.ntmps70
      go_wp2_with (go_at_call 115; refine (g1 _).mono ?_; rintro e w' ⟨rfl, rfl⟩)
      go_ret
      exact ⟨rfl, Below.refl _ _⟩
    · have g1 := fun w => rcapital_any s[0].toNat hc w
      have HC := Lib.hid hc
      clear hc
      go_enter Tryz.func70, Tryz.ntmps70
      go_wp2_with (go_at_call 115; refine (g1 _).mono ?_; rintro e w' ⟨rfl, rfl⟩)
      go_loop [3] (fun i => ∃ k : Nat, k ≤ s.size ∧ i = .int .i64 k ∧ capChars (s.data.toList.take k) = true) (fun i => s.size - (intOf i).toNat)
      case atStart => exact ⟨0, by omega, rfl, rfl⟩
      case round =>
        obtain ⟨k, hk, rfl, hp⟩ := hrel
        have HP := Lib.hid hp
        clear hp g1
        by_cases hlt : k < s.size
        · obtain ⟨c, hc⟩ : ∃ c, capL s[k] = c := ⟨_, rfl⟩
          have g1 := fun w => rcapital_any s[k].toNat hc w
          have HK := Lib.hid hc
          clear hc
          cases c
          · go_wp2_with (go_at_call 115; refine (g1 _).mono ?_; rintro e w' ⟨rfl, rfl⟩)
            all_goals first
              | (go_ret; exact ⟨ret_bool (HB.out.symm.trans (capChars_bad s k hlt (by rw [HK.out]; unfold digB; simp; omega))).symm, Below.refl _ _⟩)
              | (go_round; (case rel => exact ⟨k + 1, by omega, by go_num, capChars_snoc s k hlt (by rw [HK.out]; unfold digB; simp; omega) HP.out⟩); (case measure => simp [intOf]; omega))
          · go_wp2_with (go_at_call 115; refine (g1 _).mono ?_; rintro e w' ⟨rfl, rfl⟩)
            go_round
            case rel => exact ⟨k + 1, by omega, by go_num, capChars_snoc s k hlt (by rw [HK.out]; rfl) HP.out⟩
            case measure => simp [intOf]; omega
        · go_wp2
          go_ret
          obtain rfl : k = s.size := by omega
          refine ⟨ret_bool ?_, Below.refl _ _⟩
          have ha := HP.out
          rw [List.take_of_length_le (by simp)] at ha
          rw [← HB.out, capsB_good s hpos HC.out ha]
  · obtain rfl : false = b := by rw [← hb, paper_long s hl]
    clear hb
    go_enter Tryz.func70, Tryz.ntmps70
    go_wp2
    go_ret
    exact ⟨rfl, Below.refl _ _⟩
end
section
section
section
open Go.RowKit
set_option maxHeartbeats 1000000
theorem rleap_any (y : Int) (w : World) : Calls Tryz.prog 157 #[.int .i64 y] w (RetW (.bool (leapT y)) w) := by
  unfold leapT
  go_enter Tryz.func157, Tryz.ntmps157
  go_wp2
  all_goals go_ret
  all_goals (refine ⟨ret_bool ?_, rfl⟩; rw [Bool.eq_iff_iff]; simp [*])
theorem rleap_is {y : Int} {b : Bool} (h1 : 2000 ≤ y) (h2 : y ≤ 2199) (h : decide (lp y = 1) = b) (w : World) : Calls Tryz.prog 157 #[.int .i64 y] w (RetW (.bool b) w) := by
  rw [← h, ← leapT_in h1 h2]; exact rleap_any y w
theorem days_any {y : Int} (h1 : 2000 ≤ y) (h2 : y ≤ 2199) (w : World) : Calls Tryz.prog 103 #[.int .i64 y] w (RetW (.int .i64 (daysY y)) w) := by
  unfold daysY
  rcases lp01 y with h | h
  · go_enter Tryz.func103, Tryz.ntmps103
    go_wp2_with fail
    refine (rleap_is (b := true) h1 h2 (by simp [h]) _).mono ?_
    rintro e w1 ⟨rfl, rfl⟩
    go_wp2
    go_ret
    exact ⟨ret_int (by omega), rfl⟩
  · go_enter Tryz.func103, Tryz.ntmps103
    go_wp2_with fail
    refine (rleap_is (b := false) h1 h2 (by simp [h]) _).mono ?_
    rintro e w1 ⟨rfl, rfl⟩
    go_wp2
    go_ret
    exact ⟨ret_int (by omega), rfl⟩
theorem mlength_any {y m : Int} (h1 : 2000 ≤ y) (h2 : y ≤ 2199) (w : World) : Calls Tryz.prog 104 #[.int .i64 y, .int .i64 m] w (RetW (.int .i64 (lenM y m)) w) := by
  have hl := lp_bd y
  unfold lenM
  by_cases m2 : m = 2
  · subst m2
    go_enter Tryz.func104, Tryz.ntmps104
    go_wp2_with fail
    refine (days_any h1 h2 _).mono ?_
    rintro e w1 ⟨rfl, rfl⟩
    unfold daysY
    go_wp2
    go_ret
    exact ⟨ret_int (by omega), rfl⟩
  · rw [if_neg m2]
    by_cases m4 : m = 4
    · subst m4
      go_enter Tryz.func104, Tryz.ntmps104
      go_wp2
      go_ret
      exact ⟨rfl, rfl⟩
    by_cases m6 : m = 6
    · subst m6
      go_enter Tryz.func104, Tryz.ntmps104
      go_wp2
      go_ret
      exact ⟨rfl, rfl⟩
    by_cases m9 : m = 9
    · subst m9
      go_enter Tryz.func104, Tryz.ntmps104
      go_wp2
      go_ret
      exact ⟨rfl, rfl⟩
    by_cases m11 : m = 11
    · subst m11
      go_enter Tryz.func104, Tryz.ntmps104
      go_wp2
      go_ret
      exact ⟨rfl, rfl⟩
    rw [if_neg (by omega)]
    go_enter Tryz.func104, Tryz.ntmps104
    go_wp2
    go_ret
    exact ⟨rfl, rfl⟩
theorem dout_any (n : Int) (w : World) : Calls Tryz.prog 72 #[.int .i64 n] w (RetW (.bool (!decide (0 ≤ n ∧ n ≤ 73048))) w) := by
  go_enter Tryz.func72, Tryz.ntmps72
  go_wp2
  all_goals go_ret
  all_goals (refine ⟨ret_bool ?_, rfl⟩; rw [Bool.eq_iff_iff]; simp; try omega)
theorem dout_is {n : Int} {b : Bool} (h : decide (0 ≤ n ∧ n ≤ 73048) = b) (w : World) : Calls Tryz.prog 72 #[.int .i64 n] w (RetW (.bool (!b)) w) := by rw [← h]; exact dout_any n w
end
section
open Go.RowKit
set_option maxHeartbeats 2000000
theorem rcivil_in {n y m d : Int} (h : CV n y m d) (w : World) :
    Calls Tryz.prog 57 #[.int .i64 n] w (RetW (.tuple #[.int .i64 y, .int .i64 m, .int .i64 d, .int .i64 0]) w) := by
  obtain ⟨hn1, hn2⟩ := h.bd
  obtain ⟨hy1, hy2⟩ := h.year
  obtain ⟨h1, h2, h3, h4, h5, h6, h7⟩ := h
  have hs := ys_succ y h1
  have H7 := Lib.hid h7
  have HS := Lib.hid hs
  clear h7 hs
  go_enter Tryz.func57, Tryz.ntmps57
  go_wp2_with fail
  refine (dout_is (b := true) (by simp; omega) _).mono ?_
  rintro e w1 ⟨rfl, rfl⟩
  go_wp2_with fail
  go_loopw [0, 2] (fun q a wr => ∃ v : Int, 2000 ≤ v ∧ v ≤ y ∧ q = .int .i64 (n - ysI v) ∧ a = .int .i64 v ∧ wr = w) (fun _ a _ => (y - intOf a).toNat)
  case atStart => exact ⟨2000, by omega, by omega, vint (by rw [show ysI 2000 = 0 by decide]; omega), rfl, rfl⟩
  case round =>
    obtain ⟨v, hv1, hv2, rfl, rfl, hw⟩ := hrel
    have hl := lp_bd v
    have hyv := ys_mono hv1
    rw [show ysI 2000 = 0 by decide] at hyv
    have hyw := ys_mono (show v ≤ 2200 by omega)
    rw [show ysI 2200 = 73049 by decide] at hyw
    by_cases hlt : v < y
    · have hle : ysI (v + 1) ≤ n := by have := ys_mono (show v + 1 ≤ y by omega); omega
      have hsv := ys_succ v hv1
      unfold daysY at hsv
      have hd : 365 + lp v ≤ n - ysI v := by omega
      have hn : n - ysI v - (365 + lp v) = n - ysI (v + 1) := by omega
      have HN := Lib.hid hn
      clear hsv hn
      go_wp2_with fail
      refine (days_any (by omega) (by omega) _).mono ?_
      rintro e w2 ⟨rfl, rfl⟩
      unfold daysY
      go_wp2_with fail
      refine (days_any (by omega) (by omega) _).mono ?_
      rintro e w2 ⟨rfl, rfl⟩
      unfold daysY
      go_wp2_with fail
      go_roundw
      case rel => exact ⟨v + 1, by omega, by omega, vint HN.out, rfl, trivial⟩
      case measure => simp [intOf]; omega
    · have hvy : v = y := by omega
      subst hvy
      have hd : n - ysI v < 365 + lp v := by have := HS.out; unfold daysY at this; omega
      go_wp2_with fail
      refine (days_any (by omega) (by omega) _).mono ?_
      rintro e w2 ⟨rfl, rfl⟩
      unfold daysY
      go_wp2_with fail
      go_loopw [0, 3] (fun q a wr => ∃ k : Int, 1 ≤ k ∧ k ≤ m ∧ q = .int .i64 (n - ysI v - aheadM v k) ∧ a = .int .i64 k ∧ wr = w) (fun _ a _ => (m - intOf a).toNat)
      case atStart => exact ⟨1, by omega, by omega, vint (by rw [show aheadM v 1 = 0 by simp [aheadM]]; omega), rfl, by first | exact hw | rfl⟩
      case round =>
        obtain ⟨k, hk1, hk2, rfl, rfl, hw2⟩ := hrel
        have ha := ahead_bd v hk1 (by omega)
        unfold daysY at ha
        have hb2 := len_bd v k
        by_cases hlt : k < m
        · have hmm := ahead_mono v hk1 hlt h4
          have hsu := ahead_succ v hk1 (by omega)
          have hd : lenM v k ≤ n - ysI v - aheadM v k := by have := H7.out; omega
          have hn : n - ysI v - aheadM v k - lenM v k = n - ysI v - aheadM v (k + 1) := by omega
          have HN := Lib.hid hn
          clear hsu hn
          go_wp2_with fail
          refine (mlength_any h1 h2 _).mono ?_
          rintro e w2 ⟨rfl, rfl⟩
          go_wp2_with fail
          refine (mlength_any h1 h2 _).mono ?_
          rintro e w2 ⟨rfl, rfl⟩
          go_wp2_with fail
          go_roundw
          case rel => exact ⟨k + 1, by omega, by omega, vint HN.out, rfl, trivial⟩
          case measure => simp [intOf]; omega
        · have hkm : k = m := by omega
          subst hkm
          have hd : n - ysI v - aheadM v k < lenM v k := by have := H7.out; omega
          have hd0 : 0 ≤ n - ysI v - aheadM v k := by have := H7.out; omega
          go_wp2_with fail
          refine (mlength_any h1 h2 _).mono ?_
          rintro e w2 ⟨rfl, rfl⟩
          go_wp2_with fail
          (try simp only [Exit.inBlock, Exit.then])
          refine bodyPost_ret (results_tmp4 rfl _ _ _) rfl ?_
          exact ⟨ret_t4 rfl rfl (by have := H7.out; omega) rfl, by first | rfl | assumption | (simp [*])⟩
theorem rcivil_out {n : Int} (h : ¬(0 ≤ n ∧ n ≤ 73048)) (w : World) :
    Calls Tryz.prog 57 #[.int .i64 n] w (RetW (.tuple #[.int .i64 0, .int .i64 0, .int .i64 0, .int .i64 50]) w) := by
  go_enter Tryz.func57, Tryz.ntmps57
  go_wp2_with fail
  refine (dout_is (b := false) (by simp; omega) _).mono ?_
  rintro e w1 ⟨rfl, rfl⟩
  go_wp2_with fail
  (try simp only [Exit.inBlock, Exit.then])
  refine bodyPost_ret (results_tmp4 rfl _ _ _) rfl ?_
  exact ⟨rfl, rfl⟩
end
section
open Go.RowKit
set_option maxHeartbeats 2000000
theorem CV.last {n y m d : Int} (h : CV n y m d) : CV (n + lenM y m - d) y m (lenM y m) :=
  ⟨h.y1, h.y2, h.m1, h.m2, by have := len_bd y m; omega, by omega, by have := h.eq; omega⟩
end
end
section
open Go.RowKit
set_option maxHeartbeats 4000000
theorem rformat_out {n : Int} (h : ¬(0 ≤ n ∧ n ≤ 73048)) (w : World) : Calls Tryz.prog 28 #[.int .i64 n] w (RetB (.tuple #[.string ⟨#[]⟩, .int .i64 50]) w) := by
  go_enter Tryz.func28, Tryz.ntmps28
  go_wp2_with fail
  refine (rcivil_out h _).mono ?_
  rintro e w1 ⟨rfl, rfl⟩
  go_wp2_with fail
  go_ret2
  exact ⟨rfl, Below.refl _ _⟩
def twoS (n : Int) : ByteArray := ⟨#[UInt8.ofNat (48 + n / 10).toNat, UInt8.ofNat (48 + n % 10).toNat]⟩
theorem ten_at (k : Nat) (h : k < 10) : (⟨#[48, 49, 50, 51, 52, 53, 54, 55, 56, 57]⟩ : ByteArray).extract k (k + 1) = ⟨#[UInt8.ofNat (48 + k)]⟩ := by
  have : k = 0 ∨ k = 1 ∨ k = 2 ∨ k = 3 ∨ k = 4 ∨ k = 5 ∨ k = 6 ∨ k = 7 ∨ k = 8 ∨ k = 9 := by omega
  rcases this with rfl | rfl | rfl | rfl | rfl | rfl | rfl | rfl | rfl | rfl <;> rfl
theorem two_eq (n : Int) (h1 : 0 ≤ n) (h2 : n ≤ 99) : (⟨#[48, 49, 50, 51, 52, 53, 54, 55, 56, 57]⟩ : ByteArray).extract (n / 10).toNat (n / 10 + 1).toNat ++ (⟨#[48, 49, 50, 51, 52, 53, 54, 55, 56, 57]⟩ : ByteArray).extract (n % 10).toNat (n % 10 + 1).toNat = twoS n := by
  rw [show (n / 10 + 1).toNat = (n / 10).toNat + 1 by omega, show (n % 10 + 1).toNat = (n % 10).toNat + 1 by omega, ten_at _ (by omega), ten_at _ (by omega)]
  unfold twoS
  rw [show (48 + n / 10).toNat = 48 + (n / 10).toNat by omega, show (48 + n % 10).toNat = 48 + (n % 10).toNat by omega]
  rfl
theorem two_any (n : Int) (h1 : 0 ≤ n) (h2 : n ≤ 99) (w : World) : Calls Tryz.prog 58 #[.int .i64 n] w (RetB (.string (twoS n)) w) := by
  have HE := Lib.hid (two_eq n h1 h2)
  go_enter Tryz.func58, Tryz.ntmps58
  go_wp2_with fail
  go_quiet (fail)
  go_wp2_with fail
  go_ret
  refine ⟨?_, below_drewN (Below.refl _ _) _⟩
  rw [← HE.out]
  rfl
theorem fmt_eq (y m d : Int) (hy1 : 2000 ≤ y) (hy2 : y ≤ 2199) (hm1 : 1 ≤ m) (hm2 : m ≤ 12) (hd1 : 1 ≤ d) (hd2 : d ≤ 31) :
    twoS (y / 100) ++ twoS (y % 100) ++ ⟨#[45]⟩ ++ twoS m ++ ⟨#[45]⟩ ++ twoS d = fmtS y m d := by
  have e : fmtS y m d = ⟨#[UInt8.ofNat (48 + y / 1000 % 10).toNat, UInt8.ofNat (48 + y / 100 % 10).toNat, UInt8.ofNat (48 + y / 10 % 10).toNat, UInt8.ofNat (48 + y / 1 % 10).toNat, 45,
      UInt8.ofNat (48 + m / 10 % 10).toNat, UInt8.ofNat (48 + m / 1 % 10).toNat, 45, UInt8.ofNat (48 + d / 10 % 10).toNat, UInt8.ofNat (48 + d / 1 % 10).toNat]⟩ := rfl
  rw [e, show y / 1000 % 10 = y / 100 / 10 by omega, show y / 10 % 10 = y % 100 / 10 by omega, show y / 1 % 10 = y % 100 % 10 by omega, show m / 10 % 10 = m / 10 by omega, show m / 1 % 10 = m % 10 by omega,
    show d / 10 % 10 = d / 10 by omega, show d / 1 % 10 = d % 10 by omega]
  rfl
theorem rformat_in {n y m d : Int} (h : CV n y m d) (w : World) :
    Calls Tryz.prog 28 #[.int .i64 n] w (RetB (.tuple #[.string (fmtS y m d), .int .i64 0]) w) := by
  have y1 := h.y1
  have y2 := h.y2
  have m1 := h.m1
  have m2 := h.m2
  have d1 := h.d1
  have d2 : d ≤ 31 := by have := h.d2; have := len_bd y m; omega
  have HE := Lib.hid (fmt_eq y m d y1 y2 m1 m2 d1 d2)
  have H := Lib.hid h
  clear h
  go_enter Tryz.func28, Tryz.ntmps28
  go_wp2_with fail
  refine (rcivil_in H.out _).mono ?_
  rintro e w1 ⟨rfl, rfl⟩
  go_wp2_with fail
  refine (two_any _ (by omega) (by omega) _).mono ?_
  rintro e w2 ⟨rfl, hb2⟩
  go_wp2_with fail
  refine (two_any _ (by omega) (by omega) _).mono ?_
  rintro e w3 ⟨rfl, hb3⟩
  go_wp2_with fail
  refine (two_any _ (by omega) (by omega) _).mono ?_
  rintro e w4 ⟨rfl, hb4⟩
  go_wp2_with fail
  refine (two_any _ (by omega) (by omega) _).mono ?_
  rintro e w5 ⟨rfl, hb5⟩
  go_wp2_with fail
  go_ret2
  refine ⟨?_, bnext (bnext (bnext hb2 hb3) hb4) hb5⟩
  rw [← HE.out]
  rfl
end
section
open Go.RowKit
set_option maxHeartbeats 4000000
theorem rfmt_is {n e : Int} {s : ByteArray} (h : FmtR n s e) (w : World) : Calls Tryz.prog 28 #[.int .i64 n] w (RetB (.tuple #[.string s, .int .i64 e]) w) := by
  rcases h with ⟨y, m, d, h, rfl, rfl⟩ | ⟨h, rfl, rfl⟩
  · exact rformat_in h w
  · exact rformat_out h w
end
end
section
open Go.RowKit
set_option maxHeartbeats 4000000
section
variable {q : QT}
theorem noZ (h : okR q.x q.a q.y q.b) : (!(((q.x == false) && decide (q.a = 0)) && ((q.y == false) && decide (q.b = 1)))) = !(decide (sZ q.x q.a = 0)) := by
  obtain ⟨-, -, hy, -, hx, hg⟩ := okR_bound h
  have e : sZ q.x q.a = 0 ↔ q.a = 0 := by unfold sZ; split <;> omega
  congr 1
  rw [decide_eq_decide.2 e, hy]
  by_cases h0 : q.a = 0
  · rw [h0, Nat.gcd_zero_left] at hg
    have hx0 : q.x = false := by
      cases hc : q.x
      · rfl
      · exact absurd h0 (hx hc)
    simp [hx0, hg, h0]
  · rw [decide_eq_false h0, Bool.and_false, Bool.false_and]
set_option maxRecDepth 100000 in
theorem qvalid_any (hq : q.wf) {v : Bool} (hv : q.ok = v) (w : World) : Calls Tryz.prog 40 #[.agg (qC q)] w (RetB (.bool v) w) := by
  have F := Fr.start w
  obtain ⟨c1, h1⟩ : ∃ c, nameB q.src = c := ⟨_, rfl⟩
  obtain ⟨c2, h2⟩ : ∃ c, paperB q.ins = c := ⟨_, rfl⟩
  obtain ⟨c3, h3⟩ : ∃ c, codeB q.cur = c := ⟨_, rfl⟩
  obtain ⟨c6, h6⟩ : ∃ c, decide (0 ≤ q.day ∧ q.day ≤ 73048) = c := ⟨_, rfl⟩
  obtain ⟨c7, h7⟩ : ∃ c, knB q.known = c := ⟨_, rfl⟩
  obtain ⟨c4, h4⟩ : ∃ c, q.noP = c := ⟨_, rfl⟩
  have g1 := fun w => rname_any (bs q.src) (bs_max hq.s1) (b := c1) (by rw [bs_list]; exact h1) w
  have g2 := fun w => rpaper_any (bs q.ins) (bs_max hq.s2) (b := c2) (by rw [bs_list]; exact h2) w
  have g3 := fun w => rcode_any (bs q.cur) (bs_max hq.s3) (b := c3) (by rw [bs_list]; exact h3) w
  have g6 : ∀ w, Calls Tryz.prog 72 #[.int .i64 q.day] w (RetB (.bool (!c6)) w) := fun w => (dout_is h6 w).mono (by rintro e w' ⟨rfl, rfl⟩; exact ⟨rfl, Below.refl _ _⟩)
  have g7 := fun w => qknownOK_any h7 w
  have qz := fun w => eq_noP hq w
  rw [h4] at qz
  unfold QT.ok QT.right at hv
  rw [h1, h2, h3, h4, h6, h7] at hv
  clear h1 h2 h3 h4 h6 h7
  cases c1
  · obtain rfl : false = v := hv
    go_enter Tryz.func40, Tryz.ntmps40
    go_wp2_with (first | go_skip | refine aYQ ?_ | refine aNQ ?_)
    (clear F; intro b1 W F; try simp only [Act.put, z6, z1, z2])
    go_wp2_with (first | go_skip | ((go_at_call 69); (with_reducible refine fr_call F (g1 _) ?_); (clear F; intro W F); (try dsimp only)) | refine aYQ ?_ | refine aNQ ?_)
    go_ret
    exact ⟨rfl, F.below⟩
  cases c2
  · obtain rfl : false = v := hv
    go_enter Tryz.func40, Tryz.ntmps40
    go_wp2_with (first | go_skip | refine aYQ ?_ | refine aNQ ?_)
    (clear F; intro b1 W F; try simp only [Act.put, z6, z1, z2])
    go_wp2_with (first | go_skip | ((go_at_call 69); (with_reducible refine fr_call F (g1 _) ?_); (clear F; intro W F); (try dsimp only)) | ((go_at_call 70); (with_reducible refine fr_call F (g2 _) ?_); (clear F; intro W F); (try dsimp only)) | refine aYQ ?_ | refine aNQ ?_)
    go_ret
    exact ⟨rfl, F.below⟩
  cases c3
  · obtain rfl : false = v := hv
    go_enter Tryz.func40, Tryz.ntmps40
    go_wp2_with (first | go_skip | refine aYQ ?_ | refine aNQ ?_)
    (clear F; intro b1 W F; try simp only [Act.put, z6, z1, z2])
    go_wp2_with (first | go_skip | ((go_at_call 69); (with_reducible refine fr_call F (g1 _) ?_); (clear F; intro W F); (try dsimp only)) | ((go_at_call 70); (with_reducible refine fr_call F (g2 _) ?_); (clear F; intro W F); (try dsimp only)) | ((go_at_call 71); (with_reducible refine fr_call F (g3 _) ?_); (clear F; intro W F); (try dsimp only)) | refine aYQ ?_ | refine aNQ ?_)
    go_ret
    exact ⟨rfl, F.below⟩
  cases c6
  · obtain rfl : false = v := hv
    go_enter Tryz.func40, Tryz.ntmps40
    go_wp2_with (first | go_skip | refine aYQ ?_ | refine aNQ ?_)
    (clear F; intro b1 W F; try simp only [Act.put, z6, z1, z2])
    go_wp2_with (first | go_skip | ((go_at_call 69); (with_reducible refine fr_call F (g1 _) ?_); (clear F; intro W F); (try dsimp only)) | ((go_at_call 70); (with_reducible refine fr_call F (g2 _) ?_); (clear F; intro W F); (try dsimp only)) | ((go_at_call 71); (with_reducible refine fr_call F (g3 _) ?_); (clear F; intro W F); (try dsimp only)) | ((go_at_call 72); (with_reducible refine fr_call F (g6 _) ?_); (clear F; intro W F); (try dsimp only)) | refine aYQ ?_ | refine aNQ ?_)
    go_ret
    exact ⟨rfl, F.below⟩
  cases c7
  · obtain rfl : false = v := by rw [← hv, Bool.and_false]
    clear hv
    go_enter Tryz.func40, Tryz.ntmps40
    go_wp2_with (first | go_skip | refine aYQ ?_ | refine aNQ ?_)
    (clear F; intro b1 W F; try simp only [Act.put, z6, z1, z2])
    go_wp2_with (first | go_skip | ((go_at_call 69); (with_reducible refine fr_call F (g1 _) ?_); (clear F; intro W F); (try dsimp only)) | ((go_at_call 70); (with_reducible refine fr_call F (g2 _) ?_); (clear F; intro W F); (try dsimp only)) | ((go_at_call 71); (with_reducible refine fr_call F (g3 _) ?_); (clear F; intro W F); (try dsimp only)) | ((go_at_call 72); (with_reducible refine fr_call F (g6 _) ?_); (clear F; intro W F); (try dsimp only)) | ((go_at_call 52); (with_reducible refine fr_call F (g7 _) ?_); (clear F; intro W F); (try dsimp only)) | refine aYQ ?_ | refine aNQ ?_)
    go_ret
    exact ⟨rfl, F.below⟩
  simp only [Bool.true_and, Bool.and_true] at hv
  obtain ⟨c8, h8⟩ : ∃ c, price0 (okR q.x q.a q.y q.b) (sZ q.x q.a) (sZ q.y q.b) = c := ⟨_, rfl⟩
  have g8 := fun w => rpriceOK_any hq.a hq.b h8 w
  have g9 := fun w => rzeroR w
  unfold QT.price at hv
  rw [← price_doc, h8] at hv
  have qe : ∀ w, (Op.equalIn 10000 31 (.agg (ratC q.x q.a q.y q.b)) (.agg (RC 0 1))).run Tryz.prog w = .ok _ w := fun w => eq_rat q.x q.a q.y q.b false 0 false 1 hq.a hq.b (bp_pos 32) (b15 one15) w
  obtain ⟨z, hz⟩ : ∃ z, (((q.x == false) && decide (q.a = 0)) && ((q.y == false) && decide (q.b = 1))) = z := ⟨_, rfl⟩
  rw [hz] at qe
  have hv2 : (if q.void = true then c4 else (c8 && !z)) = v := by
    rw [← hv]
    cases c8
    · rfl
    · have hok : okR q.x q.a q.y q.b := by
        by_cases h : okR q.x q.a q.y q.b
        · exact h
        · exfalso
          unfold price0 at h8
          rw [txt_no h, decide_eq_false (by decide), Bool.false_and] at h8
          cases h8
      rw [← noZ hok, hz]
  have HV := Lib.hid hv2
  clear h8 hz hv hv2 hq
  go_enter Tryz.func40, Tryz.ntmps40
  go_wp2_with (first | go_skip | refine aYQ ?_ | refine aNQ ?_)
  (clear F; intro b1 W F; try simp only [Act.put, z6, z1, z2])
  go_wp2_with (first | go_skip | ((go_at_call 69); (with_reducible refine fr_call F (g1 _) ?_); (clear F; intro W F); (try dsimp only)) | ((go_at_call 70); (with_reducible refine fr_call F (g2 _) ?_); (clear F; intro W F); (try dsimp only)) | ((go_at_call 71); (with_reducible refine fr_call F (g3 _) ?_); (clear F; intro W F); (try dsimp only)) | ((go_at_call 72); (with_reducible refine fr_call F (g6 _) ?_); (clear F; intro W F); (try dsimp only)) | ((go_at_call 52); (with_reducible refine fr_call F (g7 _) ?_); (clear F; intro W F); (try dsimp only)) | refine aYQ ?_ | refine aNQ ?_)
  any_goals
    go_ret
    rename_i h
    exact ⟨ret_bool (by rw [← HV.out, h]; rfl), F.below⟩
  have h : q.void = false := by assumption
  have hv3 := HV.out
  rw [h, if_neg (by decide)] at hv3
  clear HV h
  subst hv3
  cases c8
  · skip
    try simp only [Act.put, z6, z1, z2]
    refine wp_region_bm 10 (by kernel_rfl) rfl ?_
    replace F := F.drew
    revert F
    generalize World.drew _ = W
    intro F
    refine dg_one 0 1 (by kernel_rfl) rfl (by kernel_rfl) rfl (fun K hK => ?_)
    (simp only [z3, z4, z5])
    ((refine ⟨?_⟩); go_simp)
    (refine hK _ _ ?_; clear hK K)
    refine dg_one 1 3 (by kernel_rfl) rfl (by kernel_rfl) rfl (fun K hK => ?_)
    (simp only [z3, z4, z5])
    (first | ((with_reducible apply gL F); exact rfl; (exact tL); (exact tR3); go_simp) | ((with_reducible apply gLm F); exact rfl; (exact tL); (first | (with_reducible exact q_rat _) | (exact tM3)); (exact tR3); go_simp) | ((refine ⟨?_⟩); go_simp))
    (refine hK _ _ ?_; clear hK K)
    refine dg_one 2 7 (by kernel_rfl) rfl (by kernel_rfl) rfl (fun K hK => ?_)
    (simp only [z3, z4, z5])
    ((refine ⟨?_⟩); go_simp; (first | ((with_reducible refine fr_call F (g8 _) ?_); (try clear F); (intro W F); (try dsimp only)) | skip))
    (refine hK _ _ ?_; clear hK K)
    refine dg_one 3 15 (by kernel_rfl) rfl (by kernel_rfl) rfl (fun K hK => ?_)
    (simp only [z3, z4, z5])
    ((refine ⟨?_⟩); go_simp)
    (refine hK _ _ ?_; clear hK K)
    apply dg_meet (f' := 3) (m' := 127)
    · intro M
      refine dg_ready [4, 6] (by kernel_rfl) rfl ?_
      refine dg_skip 4 31 rfl (by kernel_rfl) rfl ?_ ?_
      · (simp only [Act.put, z3, z4, z5, z6, z1, z2])
        refine dg_ready [5, 6] (by kernel_rfl) rfl ?_
        refine dg_skip 5 63 rfl (by kernel_rfl) rfl ?_ ?_
        · (simp only [Act.put, z3, z4, z5, z6, z1, z2])
          refine dg_oneS 6 127 (by kernel_rfl) rfl (by kernel_rfl) rfl ?_
          (simp only [Act.put, z3, z4, z5, z6, z1, z2])
          exact M _ F
        refine dg_skip 6 95 rfl (by kernel_rfl) rfl ?_ ?_
        · (simp only [Act.put, z3, z4, z5, z6, z1, z2])
          refine dg_oneS 5 127 (by kernel_rfl) rfl (by kernel_rfl) rfl ?_
          (simp only [Act.put, z3, z4, z5, z6, z1, z2])
          exact M _ F
        exact dg_nil
      refine dg_skip 6 79 rfl (by kernel_rfl) rfl ?_ ?_
      · (simp only [Act.put, z3, z4, z5, z6, z1, z2])
        refine dg_oneS 4 95 (by kernel_rfl) rfl (by kernel_rfl) rfl ?_
        (simp only [Act.put, z3, z4, z5, z6, z1, z2])
        refine dg_oneS 5 127 (by kernel_rfl) rfl (by kernel_rfl) rfl ?_
        (simp only [Act.put, z3, z4, z5, z6, z1, z2])
        exact M _ F
      exact dg_nil
    clear F
    intro W F
    refine dg_oneS 7 255 (by kernel_rfl) rfl (by kernel_rfl) rfl ?_
    (simp only [Act.put, z3, z4, z5, z6, z1, z2])
    refine dg_one 8 511 (by kernel_rfl) rfl (by kernel_rfl) rfl (fun K hK => ?_)
    (simp only [z3, z4, z5])
    ((refine ⟨?_⟩); go_simp)
    (refine hK _ _ ?_; clear hK K)
    refine dg_one 9 1023 (by kernel_rfl) rfl (by kernel_rfl) rfl (fun K hK => ?_)
    (simp only [z3, z4, z5])
    ((refine ⟨?_⟩); go_simp)
    (refine hK _ _ ?_; clear hK K)
    refine dg_end (by kernel_rfl) ?_ _
    go_wp2_with (first | go_skip | refine aYQ ?_ | refine aNQ ?_)
    go_ret
    exact ⟨rfl, F.below⟩
  · skip
    try simp only [Act.put, z6, z1, z2]
    refine wp_region_bm 10 (by kernel_rfl) rfl ?_
    replace F := F.drew
    revert F
    generalize World.drew _ = W
    intro F
    refine dg_one 0 1 (by kernel_rfl) rfl (by kernel_rfl) rfl (fun K hK => ?_)
    (simp only [z3, z4, z5])
    ((refine ⟨?_⟩); go_simp)
    (refine hK _ _ ?_; clear hK K)
    refine dg_one 1 3 (by kernel_rfl) rfl (by kernel_rfl) rfl (fun K hK => ?_)
    (simp only [z3, z4, z5])
    (first | ((with_reducible apply gL F); exact rfl; (exact tL); (exact tR3); go_simp) | ((with_reducible apply gLm F); exact rfl; (exact tL); (first | (with_reducible exact q_rat _) | (exact tM3)); (exact tR3); go_simp) | ((refine ⟨?_⟩); go_simp))
    (refine hK _ _ ?_; clear hK K)
    refine dg_one 2 7 (by kernel_rfl) rfl (by kernel_rfl) rfl (fun K hK => ?_)
    (simp only [z3, z4, z5])
    ((refine ⟨?_⟩); go_simp; (first | ((with_reducible refine fr_call F (g8 _) ?_); (try clear F); (intro W F); (try dsimp only)) | ((with_reducible refine fr_call F (g9 _) ?_); (try clear F); (intro W F); (try dsimp only)) | skip))
    (refine hK _ _ ?_; clear hK K)
    refine dg_one 3 15 (by kernel_rfl) rfl (by kernel_rfl) rfl (fun K hK => ?_)
    (simp only [z3, z4, z5])
    ((refine ⟨?_⟩); go_simp)
    (refine hK _ _ ?_; clear hK K)
    (refine dg_take 4 40 31 (v := ?_) rfl (by kernel_rfl) (by kernel_rfl) (by kernel_rfl) (by kernel_rfl) (by kernel_rfl) (fun _ _ _ h => h) (Or.inl ⟨by kernel_rfl, ?_⟩) ?_; rotate_left; (focus (intro w; go_simp; try (with_reducible rfl))); (simp only [z1, z2]))
    apply dg_meet (f' := 3) (m' := 127)
    · intro M
      refine dg_ready [5, 6] (by kernel_rfl) rfl ?_
      refine dg_want 5 63 rfl (by kernel_rfl) rfl (fun K hK => ?_) ?_
      · skip
        (simp only [z3, z4, z5])
        (first | ((with_reducible apply gL F); exact rfl; (exact tL); (exact tR3); go_simp) | ((with_reducible apply gLm F); exact rfl; (exact tL); (first | (with_reducible exact q_rat _) | (exact tM3)); (exact tR3); go_simp) | ((refine ⟨?_⟩); go_simp))
        (refine hK _ _ ?_; clear hK K)
        refine dg_one 6 127 (by kernel_rfl) rfl (by kernel_rfl) rfl (fun K hK => ?_)
        (simp only [z3, z4, z5])
        ((refine ⟨?_⟩); go_simp; (first | ((with_reducible refine fr_call F (g8 _) ?_); (try clear F); (intro W F); (try dsimp only)) | ((with_reducible refine fr_call F (g9 _) ?_); (try clear F); (intro W F); (try dsimp only)) | skip))
        (refine hK _ _ ?_; clear hK K)
        exact M _ F
      refine dg_want 6 95 rfl (by kernel_rfl) rfl (fun K hK => ?_) ?_
      · skip
        (simp only [z3, z4, z5])
        ((refine ⟨?_⟩); go_simp; (first | ((with_reducible refine fr_call F (g8 _) ?_); (try clear F); (intro W F); (try dsimp only)) | ((with_reducible refine fr_call F (g9 _) ?_); (try clear F); (intro W F); (try dsimp only)) | skip))
        (refine hK _ _ ?_; clear hK K)
        refine dg_one 5 127 (by kernel_rfl) rfl (by kernel_rfl) rfl (fun K hK => ?_)
        (simp only [z3, z4, z5])
        (first | ((with_reducible apply gL F); exact rfl; (exact tL); (exact tR3); go_simp) | ((with_reducible apply gLm F); exact rfl; (exact tL); (first | (with_reducible exact q_rat _) | (exact tM3)); (exact tR3); go_simp) | ((refine ⟨?_⟩); go_simp))
        (refine hK _ _ ?_; clear hK K)
        exact M _ F
      exact dg_nil
    clear F
    intro W F
    refine dg_one 7 255 (by kernel_rfl) rfl (by kernel_rfl) rfl (fun K hK => ?_)
    (simp only [z3, z4, z5])
    ((refine ⟨?_⟩); go_simp)
    (refine hK _ _ ?_; clear hK K)
    refine dg_one 8 511 (by kernel_rfl) rfl (by kernel_rfl) rfl (fun K hK => ?_)
    (simp only [z3, z4, z5])
    ((refine ⟨?_⟩); go_simp)
    (refine hK _ _ ?_; clear hK K)
    refine dg_one 9 1023 (by kernel_rfl) rfl (by kernel_rfl) rfl (fun K hK => ?_)
    (simp only [z3, z4, z5])
    ((refine ⟨?_⟩); go_simp)
    (refine hK _ _ ?_; clear hK K)
    refine dg_end (by kernel_rfl) ?_ _
    go_wp2_with (first | go_skip | refine aYQ ?_ | refine aNQ ?_)
    go_ret
    exact ⟨rfl, F.below⟩
end
end
section
open Go.RowKit
section
variable {P : Program} {md : Region.Mode} {ops : Array Oper} {Q : Exit → Act → World → Prop} {n m fuel : Nat} {a : Act} {w : World} {ds : List Deferred}
theorem dg_m3 {α0 α1 α2 : Type} (f' m' : Nat) {ts1 : α0 → α1 → α2 → List Value} (H : α0 → α1 → α2 → World → Prop) (h : (∀ (x0 : α0) (x1 : α1) (x2 : α2) (W : World), H x0 x1 x2 W → wpAny P md ops Q f' (bm n m') ⟨⟨ts1 x0 x1 x2⟩, ds⟩ W) → wpAny P md ops Q fuel (bm n m) a w) (hr : (∀ (x0 : α0) (x1 : α1) (x2 : α2) (W : World), H x0 x1 x2 W → wpAny P md ops Q f' (bm n m') ⟨⟨ts1 x0 x1 x2⟩, ds⟩ W)) : wpAny P md ops Q fuel (bm n m) a w := h hr
end
end
section
open Go.RowKit
set_option maxHeartbeats 4000000
def RatV (B : Nat) (v : Value) : Prop := ∃ n d : Int, v = .agg (RC n d) ∧ okZ n d ∧ n.natAbs ≤ B ∧ d.natAbs ≤ B
theorem RatV.le {A B : Nat} {v : Value} (h : RatV A v) (hB : A ≤ B) : RatV B v := by
  obtain ⟨n, d, h1, h2, h3, h4⟩ := h
  exact ⟨n, d, h1, h2, by omega, by omega⟩
end
section
section
section
open Go.RowKit
set_option maxHeartbeats 4000000
theorem key_eq {a b : ByteArray} (h : (a.toList == b.toList) = true) : a = b := by
  rw [Lib.toList_data, Lib.toList_data] at h
  have h2 : a.data.toList = b.data.toList := by simpa using h
  cases a
  cases b
  simp at h2
  rw [h2]
theorem key_ne {a b : ByteArray} (h : (a.toList == b.toList) = false) : a ≠ b := fun e => by
  subst e
  simp at h
set_option maxRecDepth 100000 in
theorem last_any (l : List MK) (hl : l.length ≤ 4096) (k : Int) (key : ByteArray) (hk : key.size ≤ maxLen) (A : Option Addr) (cp : Nat) (w : World) (h : MkAt w A l) : Calls Tryz.prog 64 #[.slice A l.length cp, .int .i64 k, .string key] w (RetW (.int .i64 (lastF l k key l.length)) w) := by
  have H := Lib.hid h
  clear h
  go_enter Tryz.func64, Tryz.ntmps64
  go_wp2
  go_loop [7, 8] (fun av iv => ∃ i : Nat, i ≤ l.length ∧ iv = .int .i64 i ∧ av = .int .i64 (lastF l k key i)) (fun _ iv => l.length - (intOf iv).toNat)
  case atStart => exact ⟨0, by omega, rfl, rfl⟩
  case round =>
    obtain ⟨i, hi, rfl, rfl⟩ := hrel
    by_cases hlt : i < l.length
    · obtain ⟨b, o, x, rfl, hx, hbl, hsm, q0, q1, q2⟩ := H.out.get hlt
      have HX := Lib.hid hx
      clear hx
      go_wp2
      · have hk2 := key_eq (by assumption : (x.key.toList == key.toList) = true)
        have hk1 : x.known ≤ k := by assumption
        go_round
        case rel => exact ⟨i + 1, by omega, by go_num, by rw [lastF_hit HX.out hk1 hk2]⟩
        case measure => simp [intOf]; omega
      · have hk2 := key_ne (by assumption : (x.key.toList == key.toList) = false)
        go_round
        case rel => exact ⟨i + 1, by omega, by go_num, by rw [lastF_miss HX.out (fun e => hk2 e.2)]⟩
        case measure => simp [intOf]; omega
      · have hk1 : ¬x.known ≤ k := by assumption
        go_round
        case rel => exact ⟨i + 1, by omega, by go_num, by rw [lastF_miss HX.out (fun e => hk1 e.1)]⟩
        case measure => simp [intOf]; omega
    · go_wp2
      go_ret
      exact ⟨ret_int (by rw [show i = l.length by omega]), rfl⟩
theorem bdN {B : Nat} {a w : World} (h : Below B a w) (q : Nat) : Below B a (w.drewN q) := ⟨h.os, h.tape, h.output, h.size, h.block⟩
set_option maxRecDepth 100000 in
theorem rMChk_ok (l : List MK) (hv : mksB l = true) (A : Option Addr) (cp : Nat) (w : World) (h : MkAt w A l) : Calls Tryz.prog 41 #[.slice A l.length cp] w (RetB (.int .i64 0) w) := by
  have hl := mksB_len hv
  have HV := Lib.hid hv
  clear hv
  go_enter Tryz.func41, Tryz.ntmps41
  go_wp2
  go_loopw [3] (fun iv wr => ∃ i : Nat, i ≤ l.length ∧ iv = .int .i64 i ∧ MkAt wr A l ∧ Below w.heap.size w wr) (fun iv _ => l.length - (intOf iv).toNat)
  case atStart => exact ⟨0, by omega, rfl, h, Below.refl _ _⟩
  case round =>
    obtain ⟨i, hi, rfl, hS, hB⟩ := hrel
    clear h
    by_cases hlt : i < l.length
    · obtain ⟨b, o, x, rfl, hx, hbl, hsm, q0, q1, q2⟩ := hS.get hlt
      have hp := prevM_lt HV.out hx
      obtain ⟨hp1, hp2⟩ := hp
      have hk := MK.ok_of (mksFrom_get l 0 i x (mksB_from HV.out) hx).1
      obtain ⟨hk1, hk2, hk3⟩ := hk
      have t1 : decide ((x.key.size : Int) < 1) = false := decide_eq_false (by omega)
      have t2 : decide (64 < (x.key.size : Int)) = false := decide_eq_false (by omega)
      have t3 : decide (x.known < 1) = false := decide_eq_false (by omega)
      have t4 : decide (2147483647 < x.known) = false := by simp; omega
      have t5 : decide (64 < x.key.size) = false := by simp; omega
      have t6 : decide (x.key.size < 1) = false := decide_eq_false (by omega)
      rcases Nat.eq_zero_or_pos i with hi0 | hi0
      · have d0 : decide (0 < i) = false := by simpa using hi0
        have HS := Lib.hid hS
        clear hi0 hp1 hp2 hx hS
        go_wp2
        go_quiet (fail)
        go_wp2
        go_roundw
        case rel => exact ⟨i + 1, by omega, by go_num, HS.out.below ⟨rfl, rfl, rfl, Nat.le_refl _, fun _ _ => rfl⟩, bdN hB _⟩
        case measure => simp [intOf]; omega
      · have d0 : decide (0 < i) = true := by simpa using hi0
        obtain ⟨b2, o2, y, e, hy, -, -, -, p1, -⟩ := hS.get (i := i - 1) (by omega)
        injection e with e
        injection e with e1 e2
        subst e1 e2
        have hlt2 : y.known < x.known := mksFrom_lt l 0 (i - 1) i y x (mksB_from HV.out) hy hx (by omega)
        have t7 : decide (x.known ≤ y.known) = false := by simp; omega
        have z0 : IntKind.i64.wrap ((i : Int) - 1) = (i : Int) - 1 := IntWalk.i64_in _ (by omega)
        have z1 : (0 : Int) ≤ (i : Int) - 1 := by omega
        have z4 : (1 : Int) ≤ (i : Int) := by omega
        have z5 : 1 ≤ i := by omega
        have z2 : (i : Int) - 1 < (l.length : Int) := by omega
        have z3 : ((i : Int) - 1).toNat = i - 1 := by omega
        have HS := Lib.hid hS
        clear hi0 hp1 hp2 hx hS hy
        go_wp2
        go_quiet (fail)
        go_wp2
        go_roundw
        case rel => exact ⟨i + 1, by omega, by go_num, HS.out.below ⟨rfl, rfl, rfl, Nat.le_refl _, fun _ _ => rfl⟩, bdN hB _⟩
        case measure => simp [intOf]; omega
    · go_wp2
      go_ret
      exact ⟨rfl, hB⟩
end
section
open Go.RowKit
set_option maxHeartbeats 4000000
theorem vis_snoc {ms : List MK} {k : Int} {i : Nat} (h : visAt ms k i = true) : visF ms k (i + 1) = visF ms k i ++ [(i : Int)] := by rw [visF, if_pos h]
theorem vis_same {ms : List MK} {k : Int} {i : Nat} (h : visAt ms k i = false) : visF ms k (i + 1) = visF ms k i := by rw [visF, if_neg (by simp [h])]; simp
theorem visAt_eq {ms : List MK} {k : Int} {i : Nat} {x : MK} (h : ms[i]? = some x) : visAt ms k i = (!x.void && decide (x.known ≤ k) && decide (lastF ms k x.key ms.length = i)) := by simp [visAt, h]
set_option maxRecDepth 100000 in
theorem rVis_ok (l : List MK) (hv : mksB l = true) (k : Int) (A : Option Addr) (cp : Nat) (w : World) (h : MkAt w A l) : Calls Tryz.prog 35 #[.slice A l.length cp, .int .i64 k] w (ListP (vis l k) w) := by
  have hl := mksB_len hv
  have H := Lib.hid h
  have HV := Lib.hid hv
  clear hv h
  go_enter Tryz.func35, Tryz.ntmps35
  go_wp2_with fail
  refine (rMChk_ok l HV.out A cp _ H.out).mono ?_
  rintro e w1 ⟨rfl, hb1⟩
  have O1 := Lib.hid (show OwnL w w1 3 1 (.slice none 0 0) 0 [] from ⟨hb1, World.ownsRow_nil ..⟩)
  clear hb1
  go_wp2_with fail
  go_loopw [7, 8] (fun ov iv wr => ∃ i : Nat, i ≤ l.length ∧ iv = .int .i64 i ∧ OwnL w wr 3 1 ov (visF l k i).length ((visF l k i).map (.int .i64))) (fun _ iv _ => l.length - (intOf iv).toNat)
  case atStart => exact ⟨0, by omega, rfl, O1.out⟩
  case round =>
    obtain ⟨i, hi, rfl, hO⟩ := hrel
    have HO := Lib.hid hO
    clear hO O1
    by_cases hlt : i < l.length
    · obtain ⟨b, o, x, rfl, hx, hbl, hsm, q0, q1, q2⟩ := (H.out.below HO.out.below).get hlt
      have hva := visAt_eq (k := k) hx
      obtain ⟨key, known, void⟩ := x
      have HA := Lib.hid hva
      have hvl := visF_len (ms := l) (k := k) i
      have HVL := Lib.hid hvl
      clear hx hva hvl
      cases void
      · by_cases hk : known ≤ k
        · have HK := Lib.hid hk
          obtain ⟨la, hla⟩ : ∃ la, lastF l k key l.length = la := ⟨_, rfl⟩
          have hc := last_any l hl k key hsm (some ⟨b, o, none⟩) cp wr (H.out.below HO.out.below)
          rw [hla] at hc
          have HLA := Lib.hid hla
          clear hla
          by_cases hl2 : la = (i : Int)
          · have g1 : (la == (i : Int)) = true := by simpa using hl2
            have HT : Hid (visAt l k i = true) := Lib.hid (by rw [HA.out, HLA.out]; simp [HK.out, hl2])
            clear hl2
            go_wp2_with (first | (go_at_call 64; refine hc.mono ?_; rintro e w' ⟨rfl, rfl⟩) | (at_builtin; refine wpl_push elInt rfl _ _ rfl HO.out rfl #[.int .i64 (i : Int)] rfl rfl rfl (by have := HVL.out; omega) (by decide) ?_; intro v' w' hO' hg))
            go_roundw
            case rel => exact ⟨i + 1, by omega, by go_num, hO'.eqv (by rw [vis_snoc HT.out]; simp) (by rw [vis_snoc HT.out]; simp)⟩
            case measure => simp [intOf]; omega
          · have g1 : (la == (i : Int)) = false := by simpa using hl2
            have HT : Hid (visAt l k i = false) := Lib.hid (by rw [HA.out, HLA.out]; simp [hl2])
            clear hl2
            go_wp2_with (go_at_call 64; refine hc.mono ?_; rintro e w' ⟨rfl, rfl⟩)
            go_roundw
            case rel => exact ⟨i + 1, by omega, by go_num, HO.out.eqv (by rw [vis_same HT.out]) (by rw [vis_same HT.out])⟩
            case measure => simp [intOf]; omega
        · have g0 : decide (known ≤ k) = false := by simpa using hk
          have HT : Hid (visAt l k i = false) := Lib.hid (by rw [HA.out]; simp [hk])
          clear hk
          go_wp2_with fail
          go_roundw
          case rel => exact ⟨i + 1, by omega, by go_num, HO.out.eqv (by rw [vis_same HT.out]) (by rw [vis_same HT.out])⟩
          case measure => simp [intOf]; omega
      · have HT : Hid (visAt l k i = false) := Lib.hid (by rw [HA.out]; simp)
        go_wp2_with fail
        go_roundw
        case rel => exact ⟨i + 1, by omega, by go_num, HO.out.eqv (by rw [vis_same HT.out]) (by rw [vis_same HT.out])⟩
        case measure => simp [intOf]; omega
    · go_wp2
      go_ret2
      exact ⟨_, rfl, HO.out.eqv (by rw [show i = l.length by omega]; rfl) (by rw [show i = l.length by omega]; rfl)⟩
end
end
end
section
open Go.RowKit
set_option maxHeartbeats 4000000
set_option maxRecDepth 100000 in
theorem rMChk_any (l : List MK) (A : Option Addr) (cp : Nat) (w : World) (h : MkAt w A l) {v : Int} (hv : mkErr l = v) : Calls Tryz.prog 41 #[.slice A l.length cp] w (RetB (.int .i64 v) w) := by
  have hln := h.ln
  have HV := Lib.hid hv
  clear hv
  by_cases hl : l.length ≤ 4096
  · go_enter Tryz.func41, Tryz.ntmps41
    go_wp2
    go_loopw [3] (fun iv wr => ∃ i : Nat, i ≤ l.length ∧ iv = .int .i64 i ∧ (0 ≤ prevM l i ∧ mksFrom 0 l = mksFrom (prevM l i) (l.drop i)) ∧ MkAt wr A l ∧ Below w.heap.size w wr) (fun iv _ => l.length - (intOf iv).toNat)
    case atStart => exact ⟨0, by omega, rfl, ⟨Int.le_refl _, rfl⟩, h, Below.refl _ _⟩
    case round =>
      obtain ⟨i, hi, rfl, ⟨hp0, hE⟩, hS, hB⟩ := hrel
      have HE := Lib.hid hE
      clear h hE
      by_cases hlt : i < l.length
      · obtain ⟨b, o, x, rfl, hx, hbl, hsm, q0, q1, q2⟩ := hS.get hlt
        unfold maxLen at hsm
        have HX := Lib.hid hx
        obtain ⟨pm, hpm⟩ : ∃ pm, prevM l i = pm := ⟨_, rfl⟩
        rw [hpm] at hp0
        have HPM := Lib.hid hpm
        obtain ⟨t1, ht1⟩ : ∃ t, decide (x.key.size < 1) = t := ⟨_, rfl⟩
        obtain ⟨t2, ht2⟩ : ∃ t, decide (64 < x.key.size) = t := ⟨_, rfl⟩
        obtain ⟨t3, ht3⟩ : ∃ t, decide (x.known < 1) = t := ⟨_, rfl⟩
        obtain ⟨t4, ht4⟩ : ∃ t, decide (2147483647 < x.known) = t := ⟨_, rfl⟩
        obtain ⟨t5, ht5⟩ : ∃ t, decide (x.known ≤ pm) = t := ⟨_, rfl⟩
        have hc : (x.ok && decide (pm < x.known)) = !(t1 || t2 || t3 || t4 || t5) := by
          rw [← ht1, ← ht2, ← ht3, ← ht4, ← ht5, Bool.eq_iff_iff, Bool.and_eq_true, MK.ok_iff]
          simp only [Bool.not_eq_true', Bool.or_eq_false_iff, decide_eq_false_iff_not, decide_eq_true_eq]
          omega
        have HC := Lib.hid hc
        have HT := Lib.hid (And.intro ht3 (And.intro ht4 ht5))
        have u1 : decide ((x.key.size : Int) < 1) = t1 := by rw [← ht1, decide_eq_decide]; omega
        have u2 : decide ((64 : Int) < x.key.size) = t2 := by rw [← ht2, decide_eq_decide]; omega
        clear hc hpm
        have key : (t1 || t2 || t3 || t4 || t5) = true → v = 130 := fun h => by rw [← HV.out]; exact mk_bad hl HX.out HE.out (by rw [HPM.out, HC.out, h]; rfl)
        have key2 : (t1 || t2 || t3 || t4 || t5) = false → mksFrom 0 l = mksFrom (prevM l (i + 1)) (l.drop (i + 1)) ∧ 0 ≤ prevM l (i + 1) := fun h => ⟨mk_next HX.out HE.out (by rw [HPM.out, HC.out, h]; rfl), by
          rw [prevM_succ HX.out]
          have h5 : t5 = false := by revert h; cases t5 <;> simp
          have := ht5
          rw [h5, decide_eq_false_iff_not] at this
          omega⟩
        have HK := Lib.hid key
        have HK2 := Lib.hid key2
        clear key key2
        rcases Nat.eq_zero_or_pos i with hi0 | hi0
        · have d0 : decide (0 < i) = false := by simpa using hi0
          have h5 : t5 = true → t3 = true := by
            intro h
            rw [h, decide_eq_true_eq] at ht5
            have h0 : pm = 0 := by rw [← HPM.out, hi0]; rfl
            rw [← ht3, decide_eq_true_eq]
            omega
          have H5 := Lib.hid h5
          have HS := Lib.hid hS
          clear hi0 hx hS h5 ht5
          cases t1
          · cases t2
            · cases t3
              · cases t4
                · have h5 : t5 = false := by
                    cases h : t5
                    · rfl
                    · exact absurd (H5.out h) (by decide)
                  subst h5
                  go_wp2
                  go_quiet (fail)
                  go_wp2
                  go_roundw
                  case rel => exact ⟨i + 1, by omega, by go_num, ⟨(HK2.out rfl).2, (HK2.out rfl).1⟩, HS.out.below ⟨rfl, rfl, rfl, Nat.le_refl _, fun _ _ => rfl⟩, bdN hB _⟩
                  case measure => simp [intOf]; omega
                · obtain rfl := HK.out (by simp)
                  go_wp2
                  go_quiet (fail)
                  go_wp2
                  go_ret
                  exact ⟨rfl, bdN hB _⟩
              · obtain rfl := HK.out (by simp)
                go_wp2
                go_quiet (fail)
                go_wp2
                go_ret
                exact ⟨rfl, bdN hB _⟩
            · obtain rfl := HK.out (by simp)
              go_wp2
              go_quiet (fail)
              go_wp2
              go_ret
              exact ⟨rfl, bdN hB _⟩
          · obtain rfl := HK.out (by simp)
            go_wp2
            go_quiet (fail)
            go_wp2
            go_ret
            exact ⟨rfl, bdN hB _⟩
        · have d0 : decide (0 < i) = true := by simpa using hi0
          obtain ⟨b2, o2, y, e, hy, -, -, -, p1, -⟩ := hS.get (i := i - 1) (by omega)
          injection e with e
          injection e with e1 e2
          subst e1 e2
          have hpy : pm = y.known := by
            rw [← HPM.out]
            unfold prevM
            rw [if_neg (by omega), hy]
          subst hpy
          have z0 : IntKind.i64.wrap ((i : Int) - 1) = (i : Int) - 1 := IntWalk.i64_in _ (by omega)
          have z1 : (0 : Int) ≤ (i : Int) - 1 := by omega
          have z4 : (1 : Int) ≤ (i : Int) := by omega
          have z5 : 1 ≤ i := by omega
          have z2 : (i : Int) - 1 < (l.length : Int) := by omega
          have z3 : ((i : Int) - 1).toNat = i - 1 := by omega
          have HS := Lib.hid hS
          clear hi0 hx hS hy
          cases t1
          · cases t2
            · cases t3
              · cases t4
                · cases t5
                  · go_wp2
                    go_quiet (fail)
                    go_wp2
                    go_roundw
                    case rel => exact ⟨i + 1, by omega, by go_num, ⟨(HK2.out rfl).2, (HK2.out rfl).1⟩, HS.out.below ⟨rfl, rfl, rfl, Nat.le_refl _, fun _ _ => rfl⟩, bdN hB _⟩
                    case measure => simp [intOf]; omega
                  · obtain rfl := HK.out (by simp)
                    go_wp2
                    go_quiet (fail)
                    go_wp2
                    go_ret
                    exact ⟨rfl, bdN hB _⟩
                · obtain rfl := HK.out (by simp)
                  go_wp2
                  go_quiet (fail)
                  go_wp2
                  go_ret
                  exact ⟨rfl, bdN hB _⟩
              · obtain rfl := HK.out (by simp)
                go_wp2
                go_quiet (fail)
                go_wp2
                go_ret
                exact ⟨rfl, bdN hB _⟩
            · obtain rfl := HK.out (by simp)
              go_wp2
              go_quiet (fail)
              go_wp2
              go_ret
              exact ⟨rfl, bdN hB _⟩
          · obtain rfl := HK.out (by simp)
            go_wp2
            go_quiet (fail)
            go_wp2
            go_ret
            exact ⟨rfl, bdN hB _⟩
      · go_wp2
        go_ret
        obtain rfl : i = l.length := by omega
        exact ⟨ret_int (by rw [← HV.out, mk_end hl HE.out]), hB⟩
  · have hres : v = 130 := by rw [← HV.out]; exact mkErr_long hl
    subst hres
    go_enter Tryz.func41, Tryz.ntmps41
    go_wp2
    go_ret
    exact ⟨rfl, Below.refl _ _⟩
end
section
open Go.RowKit
set_option maxHeartbeats 4000000
section
variable {P : Program} {a : Act} {w u W : World} {K : Act → World → Prop} {Q : Exit → Act → World → Prop} {e : TypeId} {sz n k bytes : Nat} {v : Value} {xs : List Value} {X : List Ent} {cs : Array Value} {t T : TypeId} {x s : Operand} {ops : Array Oper} {rest : List Oper} {dst : Option Tmp} {ty : TypeId} {pos : String} {af : Array Edge} {gd : Option (Nat × Bool)} {news : Array Value} {o : Oper} {E : Prop} {y : Ent}
theorem sPush (hgd : o.guard = none) (s x : Operand) (hop : o.op = .call { callee := .builtin .append, args := #[s, x], argTypes := #[T, T] }) (hel : ElT P T e sz bytes) (hm : n + 1 ≤ maxLen) (hb : (n + 1) * bytes ≤ 140737488355328) (S : SlG e sz v n xs X) (h : Fr u W ((k, news, e) :: X)) (hs : a.eval s = v) (hx : a.eval x = .slice (some ⟨k, 0, none⟩) 1 1) (hl : news.size = sz) (h1 : news.toList.all (·.oneCell') = true)
    (hk : ∀ v' X' W', SlG e sz v' (n + 1) (xs ++ news.toList) X' → Fr u W' X' → K (a.put o.dst v') W') : if Region.wanted o (yielded ops a.tmps) = true then o.wp P a W K Q else E := by
  rw [if_pos (by simp [Region.wanted, hgd])]
  exact wPush hop hel hm hb S h hs hx hl h1 hk
end
abbrev Q5 (W : World) (b o i : Nat) (q : QT) : Prop := W.cell? ⟨b, o + i * 72, none⟩ = some (.string (bs q.src)) ∧ W.cell? ⟨b, o + i * 72 + 1, none⟩ = some (.string (bs q.ins)) ∧ W.cell? ⟨b, o + i * 72 + 3, none⟩ = some (.int .i64 q.day) ∧ W.cell? ⟨b, o + i * 72 + 70, none⟩ = some (.int .i64 q.known) ∧ W.cell? ⟨b, o + i * 72 + 71, none⟩ = some (.bool q.void)
theorem QuAt.q5 {w W : World} {b o i : Nat} {L : List QT} {q : QT} {X : List Ent} (h : QuAt w (some ⟨b, o, none⟩) L) (hq : L[i]? = some q) (F : Fr w W X) : Q5 W b o i q := by
  have h2 := h.below F.below
  exact ⟨h2.cell hq (q_src q), h2.cell hq (q_ins q), h2.cell hq (q_day q), h2.cell hq (q_known q), h2.cell hq (q_void q)⟩
set_option maxRecDepth 100000 in
theorem rmarks_any {L : List QT} {A : Option Addr} {cp : Nat} {w : World} (hL : L.length ≤ 1000000000000) (hsh : ∀ q ∈ L, q.short) (h : QuAt w A L) : Calls Tryz.prog 36 #[.slice A L.length cp] w (MksP L w) := by
  have F := Fr.start w
  have HA := Lib.hid h
  have HSH := Lib.hid hsh
  clear h hsh
  go_enter Tryz.func36, Tryz.ntmps36
  go_wp2_with (first | go_skip | refine aYQ ?_)
  go_loopw [3, 4] (fun ov iv wr => ∃ (i : Nat) (X : List Ent), i ≤ L.length ∧ iv = .int .i64 i ∧ SlG 94 3 ov i (mkCs (L.take i)) X ∧ Fr w wr X) (fun _ iv _ => L.length - (intOf iv).toNat)
  case atStart => exact ⟨0, [], by omega, rfl, SlG.nil _ _, F⟩
  case round =>
    clear F
    obtain ⟨i, X, hi, rfl, S, F⟩ := hrel
    by_cases hlt : i < L.length
    · obtain ⟨b, o, q, rfl, hq, hr, hm, hbl⟩ := HA.out.get hlt
      have HQ := Lib.hid hq
      have HS := Lib.hid S
      have hsh := HSH.out q hm
      obtain ⟨e, he⟩ := dayL_is q.day
      have g1 := fun w => rfmt_is he w
      have hd := dayL_len q.day
      have HE := Lib.hid (key_cat q.src q.ins (dayL q.day))
      have hC := fun (W : World) (X : List Ent) (F : Fr w W X) => HA.out.q5 hq F
      unfold Q5 at hC
      obtain ⟨h1, h2⟩ := hsh
      rw [← bs_size] at h1 h2 hd
      obtain ⟨K, hK⟩ : ∃ K, bs (q.src ++ 44 :: (q.ins ++ 44 :: dayL q.day)) = K := ⟨_, rfl⟩
      have HK := Lib.hid hK
      rw [hK] at HE
      clear hr hq hm S he hK
      generalize hqs : bs q.src = A1 at *
      generalize hqi : bs q.ins = I1 at *
      generalize hqd : bs (dayL q.day) = T1 at *
      have k1 := no63 (n := A1.size + 1) (by omega)
      have k2 := no63 (n := A1.size + 1 + I1.size) (by omega)
      have k3 := no63 (n := A1.size + 1 + I1.size + 1) (by omega)
      have k4 := no63 (n := A1.size + 1 + I1.size + 1 + T1.size) (by omega)
      clear h1 h2 hd hqs hqi hqd
      have hc0 := hC _ _ F
      have HC := Lib.hid hC
      clear hC
      obtain ⟨c0, c1, c3, c70, c71⟩ := hc0
      go_upto_region 6 with (first | go_skip | ((go_at_call 28); (with_reducible refine fr_call F (g1 _) ?_); (clear F; intro W F); (try dsimp only)) | refine aYQ ?_)
      clear c0 c1 c3 c70 c71
      have HF := Lib.hid F
      have HD := Lib.hid (HC.out _ _ F.drew)
      have HD5 := Lib.hid (fun o t => HC.out _ _ (HF.out.alloc o t).drew)
      clear F
      go_region_held3 (fun W => W.cell? ⟨b, o + i * 72, none⟩ = some (.string A1) ∧ W.cell? ⟨b, o + i * 72 + 1, none⟩ = some (.string I1) ∧ W.cell? ⟨b, o + i * 72 + 3, none⟩ = some (.int .i64 q.day) ∧ W.cell? ⟨b, o + i * 72 + 70, none⟩ = some (.int .i64 q.known) ∧ W.cell? ⟨b, o + i * 72 + 71, none⟩ = some (.bool q.void))
        ((first | (with_reducible exact HD.out) | (with_reducible exact HD5.out _ _) | (with_reducible exact HC.out _ _ F')))
        (first
        | (refine sPush (by rfl) _ _ (by rfl) elMk (by unfold maxLen; omega) (by omega) HS.out (HF.out.alloc _ _).drew (by rfl) (by rfl) (by rfl) (by rfl) ?_; intro v' X' W' S' F'))
      all_goals
        go_wp2_with fail
        go_roundw
        case rel => exact ⟨i + 1, X', by omega, by go_num, by rw [mkCs_snoc HQ.out]; rw [show (mkV q.mark).toList = [.string K, .int .i64 q.known, .bool q.void] by rw [← HK.out]; rfl]; rw [← HE.out]; exact S', F'⟩
        case measure => simp [intOf]; omega
    · obtain rfl : i = L.length := by omega
      rw [List.take_length] at S
      go_wp2_with (first | go_skip | refine aYQ ?_)
      go_ret
      exact ⟨_, rfl, S.ownL F⟩
end
section
open Go.RowKit
set_option maxHeartbeats 4000000
set_option maxRecDepth 100000 in
theorem rcheck_any {L : List QT} {A : Option Addr} {cp : Nat} {w : World} (hL : L.length ≤ 1000000000000) (h : QuAt w A L) {v : Int} (hv : bkErr L = v) : Calls Tryz.prog 15 #[.slice A L.length cp] w (RetB (.int .i64 v) w) := by
  have F := Fr.start w
  have HA := Lib.hid h
  have HV := Lib.hid hv
  clear h hv
  go_enter Tryz.func15, Tryz.ntmps15
  go_wp2_with (first | go_skip | refine aYQ ?_)
  go_loopw [3] (fun iv wr => ∃ i : Nat, i ≤ L.length ∧ iv = .int .i64 i ∧ (L.take i).all QT.ok = true ∧ Fr w wr []) (fun iv _ => L.length - (intOf iv).toNat)
  case atStart => exact ⟨0, by omega, rfl, by simp, F⟩
  case round =>
    clear F
    obtain ⟨i, hi, rfl, ha, F⟩ := hrel
    have HP := Lib.hid ha
    clear ha
    by_cases hlt : i < L.length
    · obtain ⟨b, o, q, rfl, hq, hr, hm, hbl⟩ := HA.out.get hlt
      have HR := Lib.hid hr
      have HQ := Lib.hid hq
      have hwf := HA.out.wf hm
      obtain ⟨c1, h1⟩ : ∃ c, q.ok = c := ⟨_, rfl⟩
      have g1 := fun w => qvalid_any hwf h1 w
      have HO := Lib.hid h1
      clear hr hq hm hwf h1
      cases c1
      · have hres : v = 141 := by rw [← HV.out]; exact bk_bad HQ.out HO.out
        subst hres
        go_wp2_with (first | go_skip | ((with_reducible apply fLo F (hr := HA.out.recs) (hi := HR.out)); exact rfl; (rw [qC_size]; decide); exact rfl; exact rowQ _) | ((go_at_call 40); (with_reducible refine fr_call F (g1 _) ?_); (clear F; intro W F); (try dsimp only)) | refine aYQ ?_)
        go_ret
        exact ⟨rfl, F.below⟩
      go_wp2_with (first | go_skip | ((with_reducible apply fLo F (hr := HA.out.recs) (hi := HR.out)); exact rfl; (rw [qC_size]; decide); exact rfl; exact rowQ _) | ((go_at_call 40); (with_reducible refine fr_call F (g1 _) ?_); (clear F; intro W F); (try dsimp only)) | refine aYQ ?_)
      go_roundw
      case rel => exact ⟨i + 1, by omega, by go_num, all_snoc HQ.out HO.out HP.out, Fr.nil F.below⟩
      case measure => simp [intOf]; omega
    · obtain rfl : i = L.length := by omega
      have hall := HP.out
      rw [List.take_length] at hall
      have hsh : ∀ q ∈ L, q.short := fun q hq => ok_short (List.all_eq_true.1 hall q hq)
      have hmv : mkErr (L.map QT.mark) = v := by rw [← HV.out]; unfold bkErr; rw [if_pos hall]
      have HS := Lib.hid hsh
      have HM := Lib.hid hmv
      clear hall hsh hmv
      go_wp2_with (first | go_skip | (go_at_call 36; refine (rmarks_any hL HS.out (HA.out.below F.below)).mono ?_; rintro e W2 ⟨mv, rfl, hO⟩; have F2 := F.next hO.below; clear F; obtain ⟨A2, cp2, rfl, hMk⟩ := MksP.at hO hL HS.out; have GK := rMChk_any _ A2 cp2 _ hMk HM.out; rw [List.length_map] at GK; clear hO hMk; have F := F2; clear F2) | (go_at_call 41; (with_reducible refine fr_call F GK ?_); (clear F; intro W F); (try dsimp only)) | refine aYQ ?_)
      go_ret
      exact ⟨rfl, F.below⟩
end
section
open Go.RowKit
set_option maxHeartbeats 4000000
set_option maxRecDepth 100000 in
theorem rvis_any {L : List QT} {A : Option Addr} {cp : Nat} {k : Int} {w : World} (hL : L.length ≤ 1000000000000) (h : QuAt w A L) {er : Int} (her : bkErr L = er) : Calls Tryz.prog 10 #[.slice A L.length cp, .int .i64 k] w (VisP (if er = 0 then visQ L k else []) er w) := by
  have F := Fr.start w
  have HA := Lib.hid h
  have g1 := fun W (hb : Below w.heap.size w W) => rcheck_any (cp := cp) hL (h.below hb) her
  clear h
  by_cases h0 : er = 0
  · rw [if_pos h0]
    subst h0
    obtain ⟨hok, hmv, hl⟩ := bk_ok her
    have hsh : ∀ q ∈ L, q.short := fun q hq => ok_short (List.all_eq_true.1 hok q hq)
    have HS := Lib.hid hsh
    have HM := Lib.hid hmv
    have HIL0 : Hid ((vis (L.map QT.mark) k).length ≤ 4096) := Lib.hid (by have := visF_len (ms := L.map QT.mark) (k := k) (L.map QT.mark).length; rw [List.length_map] at this; unfold vis; rw [List.length_map]; omega)
    clear hok hmv hsh her
    go_enter Tryz.func10, Tryz.ntmps10
    go_wp2_with (first | go_skip | ((go_at_call 15); (with_reducible refine fr_call F (g1 _ F.below) ?_); (clear F; intro W F); (try dsimp only)) | (go_at_call 36; refine (rmarks_any hL HS.out (HA.out.below F.below)).mono ?_; rintro e W2 ⟨mv, rfl, hO⟩; have F2 := F.next hO.below; clear F; obtain ⟨A2, cp2, rfl, hMk⟩ := MksP.at hO hL HS.out; have GK := rVis_ok _ HM.out k A2 cp2 _ hMk; rw [List.length_map] at GK; clear hO hMk; have F := F2; clear F2) | (go_at_call 35; refine GK.mono ?_; rintro e W2 ⟨iv, rfl, hO⟩; have F2 := F.next hO.below; clear F; have hlv : (vis (L.map QT.mark) k).length ≤ 9223372036854775807 := (Nat.le_trans HIL0.out (by decide)); obtain ⟨A3, cp3, rfl, hI⟩ := hO.ints hlv; have HI := Lib.hid hI; clear hI hO GK g1; have F := F2; clear F2; (try dsimp only)) | refine aYQ ?_)
    have HW := Lib.hid F.below
    have HA2 := Lib.hid (HA.out.below F.below)
    have hvl : ∀ i ∈ vis (L.map QT.mark) k, 0 ≤ i ∧ i.toNat < L.length := fun i hi => vis_lt hi
    have HR0 : Hid (visQ L k = atIs L (vis (L.map QT.mark) k)) := Lib.hid rfl
    generalize vis (L.map QT.mark) k = I at *
    have HVL := Lib.hid hvl
    have HIL := HIL0
    clear hvl HA HS HM F HIL0
    have F := Fr.start W2
    have hIl : I.length ≤ 9223372036854775807 := by have := HI.out.ln; simpa using this
    go_loopw [9, 10] (fun ov jv wr => ∃ (j : Nat) (X : List Ent), j ≤ I.length ∧ jv = .int .i64 j ∧ SlG 33 72 ov j (qCs (atIs L (I.take j))) X ∧ Fr W2 wr X) (fun _ jv _ => I.length - (intOf jv).toNat)
    case atStart => exact ⟨0, [], by omega, rfl, SlG.nil _ _, F⟩
    case round =>
      clear F
      obtain ⟨j, X, hj, rfl, S, F⟩ := hrel
      have HS := Lib.hid S
      clear S
      by_cases hlt : j < I.length
      · have hji : I[j]? = some I[j] := List.getElem?_eq_getElem hlt
        obtain ⟨b3, o3, rfl, c0⟩ := HI.out.int hji F
        obtain ⟨hi0, hi1⟩ := HVL.out I[j] (List.getElem_mem hlt)
        obtain ⟨n, hn⟩ : ∃ n : Nat, I[j] = (n : Int) := ⟨I[j].toNat, by omega⟩
        rw [hn] at c0 hji hi1
        rw [Int.toNat_natCast] at hi1
        obtain ⟨b, o, q, rfl, hq, hr, hm, hbl⟩ := HA2.out.get hi1
        have HR := Lib.hid hr
        have HJ := Lib.hid (atIs_snoc hji (by rw [Int.toNat_natCast]; exact hq))
        have hjl : (qCs (atIs L (I.take j)) ++ (flatC [.agg (qC q)]).toList) = qCs (atIs L (I.take (j + 1))) := by rw [HJ.out, qCs_snoc, flatC_q]
        have HJL := Lib.hid hjl
        have hsm : I.length ≤ 4096 := HIL.out
        clear hr hq hm hji hi0 hn hjl
        go_wp2_with (first | go_skip | ((with_reducible apply fLo F (hr := HA2.out.recs) (hi := HR.out)); exact rfl; (rw [qC_size]; decide); exact rfl; exact rowQ _) | ((with_reducible apply fSli F slQuo); exact rfl; exact rfl; exact rfl; decide; decide; (go_simp; exact rfl); (exact q_all q)) | refine aYQ ?_)
        (clear F; intro b35 W F; try simp only [Act.put, z6, z1, z2])
        go_wp2_with (first | go_skip | ((with_reducible apply fPushB elQuo (n := j) (by unfold maxLen; omega) (by omega) HS.out F); exact rfl; exact rfl; exact rfl; exact q_flat q; exact q_one q; (clear F HS); (intro v' X' W' S' F')) | refine aYQ ?_)
        go_roundw
        case rel => exact ⟨j + 1, X', by omega, by go_num, by rw [← HJL.out]; exact S', F'⟩
        case measure => simp [intOf]; omega
      · obtain rfl : j = I.length := by omega
        have S := HS.out
        rw [List.take_length] at S
        go_wp2_with (first | go_skip | refine aYQ ?_)
        go_ret2
        exact ⟨_, rfl, ((S.ownL F).rebase HW.out).eqv (by rw [HR0.out, atIs_len (fun i hi => (HVL.out i hi).2)]) (by rw [HR0.out])⟩
  · rw [if_neg h0]
    have t0 : (er != 0) = true := by rw [bne_iff_ne]; exact h0
    clear her h0
    go_enter Tryz.func10, Tryz.ntmps10
    go_wp2_with (first | go_skip | ((go_at_call 15); (with_reducible refine fr_call F (g1 _ F.below) ?_); (clear F; intro W F); (try dsimp only)) | refine aYQ ?_)
    go_ret2
    exact ⟨_, rfl, (SlG.nil _ _).ownL F⟩
end
section
open Go.RowKit
set_option maxHeartbeats 4000000
theorem cur_row0 {V : List QT} {cur : Array Value} {j : Nat} {q : QT} (ht : cur.toList.take (V.length * 72) = qCs V) (hj : V[j]? = some q) {v : Value} (hv : (qC q)[0]? = some v) : cur[j * 72]? = some v := cur_row ht hj 0 v hv
section
variable {L : List QT} {A : Option Addr} {cp : Nat} {k d : Int} {s i : List UInt8} {w : World} {er : Int} {r : QT × Bool}
set_option maxRecDepth 100000 in
theorem rat_any (hL : L.length ≤ 1000000000000) (h : QuAt w A L) (her : bkErr L = er) (hr : (if er = 0 then atV (visQ L k) s i d else (q0, false)) = r) : Calls Tryz.prog 12 #[.slice A L.length cp, .int .i64 k, .string (bs s), .string (bs i), .int .i64 d] w (RetB (.tuple #[.agg (qC r.1), .bool r.2, .int .i64 er]) w) := by
  have F := Fr.start w
  have HA := Lib.hid h
  have g1 := fun W (hb : Below w.heap.size w W) => rvis_any (cp := cp) (k := k) hL (h.below hb) her
  clear h her hL
  obtain ⟨r1, r2⟩ := r
  dsimp only
  by_cases h0 : er = 0
  · subst h0
    rw [if_pos rfl] at hr
    simp only [if_true] at g1
    obtain ⟨V, hV⟩ : ∃ V, visQ L k = V := ⟨_, rfl⟩
    rw [hV] at g1 hr
    have HRR := Lib.hid hr
    clear hr hV
    go_enter Tryz.func12, Tryz.ntmps12
    go_wp2_with (first | go_skip | ((with_reducible apply fL F); exact rfl; exact rfl; (exact tL); (with_reducible exact rowQ _)) | ((with_reducible apply fLc F); exact rfl; exact rfl; (exact tL); (first | (with_reducible exact scStr) | (with_reducible exact scInt)); (first | (with_reducible exact cur_row0 H6.out HQ.out (q_src _)) | (with_reducible exact cur_row H6.out HQ.out 1 _ (q_ins _)) | (with_reducible exact cur_row H6.out HQ.out 3 _ (q_day _)) | (with_reducible exact q_src _) | (with_reducible exact q_ins _) | (with_reducible exact q_cur _) | (with_reducible exact q_day _) | (with_reducible exact q_known _) | (with_reducible exact q_void _) | exact rfl)) | ((with_reducible apply fA_quo F); exact rfl) | ((with_reducible apply fS F); exact rfl; exact rfl; exact rfl; (exact tL); (with_reducible exact rowQ _); (first | with_reducible exact (qC_size _).trans (qC_size _).symm | exact tS2); clear F; intro W F; simp only [z7, z8] at F) | ((with_reducible apply fB_quo0); exact rfl))
    (clear F; intro b10 W F; try simp only [Act.put, z6, z1, z2])
    go_wp2_with (first | go_skip | (go_at_call 10; refine (g1 _ F.below).mono ?_; rintro e W2 ⟨v, rfl, hO⟩; obtain ⟨X, S, F2⟩ := hO.list F; clear F hO g1 HA; have F := F2; clear F2; obtain ⟨A2, cp2, hv2⟩ : ∃ A2 cp2, v = .slice A2 V.length cp2 := (by rcases S.is with ⟨h1, h2, -⟩ | ⟨g, cap, cur, h1, -⟩; exact ⟨none, 0, by rw [h1, h2]⟩; exact ⟨_, _, h1⟩); subst hv2; have HS := Lib.hid S; clear S; (try dsimp only)) | ((with_reducible apply fL F); exact rfl; exact rfl; (exact tL); (with_reducible exact rowQ _)) | ((with_reducible apply fLc F); exact rfl; exact rfl; (exact tL); (first | (with_reducible exact scStr) | (with_reducible exact scInt)); (first | (with_reducible exact cur_row0 H6.out HQ.out (q_src _)) | (with_reducible exact cur_row H6.out HQ.out 1 _ (q_ins _)) | (with_reducible exact cur_row H6.out HQ.out 3 _ (q_day _)) | (with_reducible exact q_src _) | (with_reducible exact q_ins _) | (with_reducible exact q_cur _) | (with_reducible exact q_day _) | (with_reducible exact q_known _) | (with_reducible exact q_void _) | exact rfl)) | ((with_reducible apply fA_quo F); exact rfl) | ((with_reducible apply fS F); exact rfl; exact rfl; exact rfl; (exact tL); (with_reducible exact rowQ _); (first | with_reducible exact (qC_size _).trans (qC_size _).symm | exact tS2); clear F; intro W F; simp only [z7, z8] at F) | ((with_reducible apply fB_quo0); exact rfl))
    have hVl : V.length ≤ 9223372036854775807 := by
      rcases HS.out.is with ⟨-, h2, -⟩ | ⟨g, cap, cur, -, -, h3, h4, -⟩
      · omega
      · unfold maxLen at h4; omega
    go_loopw [15] (fun jv wr => ∃ j : Nat, j ≤ V.length ∧ jv = .int .i64 j ∧ (V.take j).find? (atP s i d) = none ∧ Fr w wr (X ++ [(b10, qC q0, 33)])) (fun jv _ => V.length - (intOf jv).toNat)
    case atStart => exact ⟨0, by omega, rfl, by simp, F⟩
    case round =>
      clear F
      obtain ⟨j, hj, rfl, hf, F⟩ := hrel
      have HFI := Lib.hid hf
      clear hf
      by_cases hlt : j < V.length
      · rcases HS.out.is with ⟨-, h2, -⟩ | ⟨g, cap, cur, h1, h2, h3, h4, h5, h6⟩
        · omega
        cases h1
        subst h2
        obtain ⟨q, hq⟩ : ∃ q, V[j]? = some q := ⟨_, List.getElem?_eq_getElem hlt⟩
        have H6 := Lib.hid h6
        have HQ := Lib.hid hq
        simp only [z7, z8] at F
        obtain ⟨c1, e1⟩ : ∃ c, (q.src == s) = c := ⟨_, rfl⟩
        obtain ⟨c2, e2⟩ : ∃ c, (q.ins == i) = c := ⟨_, rfl⟩
        obtain ⟨c3, e3⟩ : ∃ c, (q.day == d) = c := ⟨_, rfl⟩
        have HP : Hid (atP s i d q = (c1 && (c2 && c3))) := Lib.hid (by unfold atP; rw [e1, e2, e3])
        rw [← bs_toList q.src, ← bs_toList s] at e1
        rw [← bs_toList q.ins, ← bs_toList i] at e2
        clear hq h3 h4 h5 h6 HS
        cases hp : (c1 && (c2 && c3))
        · have HN := Lib.hid (find_no HQ.out HFI.out (by rw [HP.out, hp]))
          rcases (show c1 = false ∨ (c1 = true ∧ c2 = false) ∨ (c1 = true ∧ c2 = true ∧ c3 = false) by revert hp; cases c1 <;> cases c2 <;> cases c3 <;> simp) with rfl | ⟨rfl, rfl⟩ | ⟨rfl, rfl, rfl⟩
          all_goals
            clear hp
            go_wp2_with (first | go_skip | ((with_reducible apply fL F); exact rfl; exact rfl; (exact tL); (with_reducible exact rowQ _)) | ((with_reducible apply fLc F); exact rfl; exact rfl; (exact tL); (first | (with_reducible exact scStr) | (with_reducible exact scInt)); (first | (with_reducible exact cur_row0 H6.out HQ.out (q_src _)) | (with_reducible exact cur_row H6.out HQ.out 1 _ (q_ins _)) | (with_reducible exact cur_row H6.out HQ.out 3 _ (q_day _)) | (with_reducible exact q_src _) | (with_reducible exact q_ins _) | (with_reducible exact q_cur _) | (with_reducible exact q_day _) | (with_reducible exact q_known _) | (with_reducible exact q_void _) | exact rfl)) | ((with_reducible apply fA_quo F); exact rfl) | ((with_reducible apply fS F); exact rfl; exact rfl; exact rfl; (exact tL); (with_reducible exact rowQ _); (first | with_reducible exact (qC_size _).trans (qC_size _).symm | exact tS2); clear F; intro W F; simp only [z7, z8] at F) | ((with_reducible apply fB_quo0); exact rfl))
            go_roundw
            case rel => exact ⟨j + 1, by omega, by go_num, HN.out, F⟩
            case measure => simp [intOf]; omega
        · obtain ⟨rfl, rfl, rfl⟩ : c1 = true ∧ c2 = true ∧ c3 = true := by revert hp; cases c1 <;> cases c2 <;> cases c3 <;> simp
          have hY := find_yes HQ.out HFI.out (by rw [HP.out, hp])
          have hR := HRR.out
          unfold atV at hR
          rw [hY] at hR
          cases hR
          clear hp hY
          go_wp2_with (first | go_skip | ((with_reducible apply fLm F); exact rfl; exact rfl; (exact tL); (with_reducible exact row_of (cur_row H6.out HQ.out)); (with_reducible exact rowQ _)) | ((with_reducible apply fL F); exact rfl; exact rfl; (exact tL); (with_reducible exact rowQ _)) | ((with_reducible apply fLc F); exact rfl; exact rfl; (exact tL); (first | (with_reducible exact scStr) | (with_reducible exact scInt)); (first | (with_reducible exact cur_row0 H6.out HQ.out (q_src _)) | (with_reducible exact cur_row H6.out HQ.out 1 _ (q_ins _)) | (with_reducible exact cur_row H6.out HQ.out 3 _ (q_day _)) | (with_reducible exact q_src _) | (with_reducible exact q_ins _) | (with_reducible exact q_cur _) | (with_reducible exact q_day _) | (with_reducible exact q_known _) | (with_reducible exact q_void _) | exact rfl)) | ((with_reducible apply fA_quo F); exact rfl) | ((with_reducible apply fS F); exact rfl; exact rfl; exact rfl; (exact tL); (with_reducible exact rowQ _); (first | with_reducible exact (qC_size _).trans (qC_size _).symm | exact tS2); clear F; intro W F; simp only [z7, z8] at F) | ((with_reducible apply fB_quo0); exact rfl))
          exact bodyPost_ret (res_css rfl rfl rfl rfl (Fr.get F tL) (rowQ _)) rfl ⟨rfl, F.below⟩
      · obtain rfl : j = V.length := by omega
        have hR := HRR.out
        have hn := HFI.out
        rw [List.take_length] at hn
        unfold atV at hR
        rw [hn] at hR
        cases hR
        clear hn
        replace F : Fr w wr [(b10, qC q0, 33)] := F.sub (List.sublist_append_right _ _)
        clear HS
        go_wp2_with (first | go_skip | ((with_reducible apply fL F); exact rfl; exact rfl; (exact tL); (with_reducible exact rowQ _)) | ((with_reducible apply fLc F); exact rfl; exact rfl; (exact tL); (first | (with_reducible exact scStr) | (with_reducible exact scInt)); (first | (with_reducible exact cur_row0 H6.out HQ.out (q_src _)) | (with_reducible exact cur_row H6.out HQ.out 1 _ (q_ins _)) | (with_reducible exact cur_row H6.out HQ.out 3 _ (q_day _)) | (with_reducible exact q_src _) | (with_reducible exact q_ins _) | (with_reducible exact q_cur _) | (with_reducible exact q_day _) | (with_reducible exact q_known _) | (with_reducible exact q_void _) | exact rfl)) | ((with_reducible apply fA_quo F); exact rfl) | ((with_reducible apply fS F); exact rfl; exact rfl; exact rfl; (exact tL); (with_reducible exact rowQ _); (first | with_reducible exact (qC_size _).trans (qC_size _).symm | exact tS2); clear F; intro W F; simp only [z7, z8] at F) | ((with_reducible apply fB_quo0); exact rfl))
        exact bodyPost_ret (res_css rfl rfl rfl rfl (Fr.get F tL) (rowQ _)) rfl ⟨rfl, F.below⟩
  · rw [if_neg h0] at hr
    cases hr
    simp only [if_neg h0] at g1
    have t0 : (er != 0) = true := by rw [bne_iff_ne]; exact h0
    clear h0 HA
    go_enter Tryz.func12, Tryz.ntmps12
    go_wp2_with (first | go_skip | ((with_reducible apply fL F); exact rfl; exact rfl; (exact tL); (with_reducible exact rowQ _)) | ((with_reducible apply fLc F); exact rfl; exact rfl; (exact tL); (first | (with_reducible exact scStr) | (with_reducible exact scInt)); (first | (with_reducible exact cur_row0 H6.out HQ.out (q_src _)) | (with_reducible exact cur_row H6.out HQ.out 1 _ (q_ins _)) | (with_reducible exact cur_row H6.out HQ.out 3 _ (q_day _)) | (with_reducible exact q_src _) | (with_reducible exact q_ins _) | (with_reducible exact q_cur _) | (with_reducible exact q_day _) | (with_reducible exact q_known _) | (with_reducible exact q_void _) | exact rfl)) | ((with_reducible apply fA_quo F); exact rfl) | ((with_reducible apply fS F); exact rfl; exact rfl; exact rfl; (exact tL); (with_reducible exact rowQ _); (first | with_reducible exact (qC_size _).trans (qC_size _).symm | exact tS2); clear F; intro W F; simp only [z7, z8] at F) | ((with_reducible apply fB_quo0); exact rfl))
    (clear F; intro b10 W F; try simp only [Act.put, z6, z1, z2])
    go_wp2_with (first | go_skip | (go_at_call 10; refine (g1 _ F.below).mono ?_; rintro e W2 ⟨v, rfl, hO⟩; have F2 := F.next hO.below; clear F hO g1; have F := F2; clear F2; (try dsimp only)) | ((with_reducible apply fL F); exact rfl; exact rfl; (exact tL); (with_reducible exact rowQ _)) | ((with_reducible apply fLc F); exact rfl; exact rfl; (exact tL); (first | (with_reducible exact scStr) | (with_reducible exact scInt)); (first | (with_reducible exact cur_row0 H6.out HQ.out (q_src _)) | (with_reducible exact cur_row H6.out HQ.out 1 _ (q_ins _)) | (with_reducible exact cur_row H6.out HQ.out 3 _ (q_day _)) | (with_reducible exact q_src _) | (with_reducible exact q_ins _) | (with_reducible exact q_cur _) | (with_reducible exact q_day _) | (with_reducible exact q_known _) | (with_reducible exact q_void _) | exact rfl)) | ((with_reducible apply fA_quo F); exact rfl) | ((with_reducible apply fS F); exact rfl; exact rfl; exact rfl; (exact tL); (with_reducible exact rowQ _); (first | with_reducible exact (qC_size _).trans (qC_size _).symm | exact tS2); clear F; intro W F; simp only [z7, z8] at F) | ((with_reducible apply fB_quo0); exact rfl))
    exact bodyPost_ret (res_css rfl rfl rfl rfl (Fr.get F tL) (rowQ _)) rfl ⟨rfl, F.below⟩
end
end
section
open Go.RowKit
set_option maxHeartbeats 4000000
theorem rows_get {W : World} {A : Option Addr} {V : List QT} {i : Nat} {q : QT} (h : RecsAt W A 72 (V.map fun q => (qC q).toList)) (hq : V[i]? = some q) : ∃ b o, A = some ⟨b, o, none⟩ ∧ (V.map fun q => (qC q).toList)[i]? = some (qC q).toList := by
  have hm : (V.map fun q => (qC q).toList)[i]? = some (qC q).toList := by rw [List.getElem?_map, hq, Option.map_some]
  obtain ⟨b, o, hA, -, -⟩ := h.rows i _ hm
  exact ⟨b, o, hA, hm⟩
set_option maxRecDepth 100000 in
theorem same_any {V : List QT} {A1 A2 : Option Addr} {c1 c2 : Nat} {w : World} (h1 : RecsAt w A1 72 (V.map fun q => (qC q).toList)) (h2 : RecsAt w A2 72 (V.map fun q => (qC q).toList)) (ha : ∀ q ∈ V, q.a < bp 32 ∧ q.b < bp 32) : Calls Tryz.prog 16 #[.slice A1 V.length c1, .slice A2 V.length c2] w (RetB (.bool true) w) := by
  have F := Fr.start w
  have hl : V.length ≤ 9223372036854775807 := by simpa using h1.ln
  have H1 := Lib.hid h1
  have H2 := Lib.hid h2
  have HA := Lib.hid ha
  clear h1 h2 ha
  go_enter Tryz.func16, Tryz.ntmps16
  go_wp2_with (first | go_skip | refine aYQ ?_)
  go_loopw [5] (fun iv wr => ∃ i : Nat, i ≤ V.length ∧ iv = .int .i64 i ∧ Fr w wr []) (fun iv _ => V.length - (intOf iv).toNat)
  case atStart => exact ⟨0, by omega, rfl, F⟩
  case round =>
    clear F
    obtain ⟨i, hi, rfl, F⟩ := hrel
    by_cases hlt : i < V.length
    · have hq : V[i]? = some V[i] := List.getElem?_eq_getElem hlt
      obtain ⟨ha, hb⟩ := HA.out V[i] (List.getElem_mem hlt)
      generalize V[i] = q at *
      obtain ⟨b1, o1, rfl, hm⟩ := rows_get H1.out hq
      obtain ⟨b2, o2, rfl, -⟩ := rows_get H2.out hq
      have qq := fun w => eq_quo q ha hb w
      have HM := Lib.hid hm
      clear hq ha hb hm
      go_upto_region 6 with (first | go_skip | refine aYQ ?_)
      try simp only [Act.put, z6, z1, z2]
      refine wp_region_bm 9 (by kernel_rfl) rfl ?_
      replace F := F.drew
      revert F
      generalize World.drew _ = W
      intro F
      (refine dg_take 0 17 1 (v := ?_) rfl (by kernel_rfl) (by kernel_rfl) (by kernel_rfl) (by kernel_rfl) (by kernel_rfl) (fun _ _ _ h => h) (Or.inl ⟨by kernel_rfl, ?_⟩) ?_; rotate_left; (focus (intro w; go_simp; try (with_reducible rfl))); (simp only [z1, z2]))
      (refine dg_take 1 18 3 (v := ?_) rfl (by kernel_rfl) (by kernel_rfl) (by kernel_rfl) (by kernel_rfl) (by kernel_rfl) (fun _ _ _ h => h) (Or.inl ⟨by kernel_rfl, ?_⟩) ?_; rotate_left; (focus (intro w; go_simp; try (with_reducible rfl))); (simp only [z1, z2]))
      (refine dg_take 2 19 7 (v := ?_) rfl (by kernel_rfl) (by kernel_rfl) (by kernel_rfl) (by kernel_rfl) (by kernel_rfl) (fun _ _ _ h => h) (Or.inl ⟨by kernel_rfl, ?_⟩) ?_; rotate_left; (focus (intro w; go_simp; try (with_reducible rfl))); (simp only [z1, z2]))
      (refine dg_take 4 21 23 (v := ?_) rfl (by kernel_rfl) (by kernel_rfl) (by kernel_rfl) (by kernel_rfl) (by kernel_rfl) (fun _ _ _ h => h) (Or.inl ⟨by kernel_rfl, ?_⟩) ?_; rotate_left; (focus (intro w; go_simp; try (with_reducible rfl))); (simp only [z1, z2]))
      (refine dg_take 5 22 55 (v := ?_) rfl (by kernel_rfl) (by kernel_rfl) (by kernel_rfl) (by kernel_rfl) (by kernel_rfl) (fun _ _ _ h => h) (Or.inl ⟨by kernel_rfl, ?_⟩) ?_; rotate_left; (focus (intro w; go_simp; try (with_reducible rfl))); (simp only [z1, z2]))
      (refine dg_take 6 23 119 (v := ?_) rfl (by kernel_rfl) (by kernel_rfl) (by kernel_rfl) (by kernel_rfl) (by kernel_rfl) (fun _ _ _ h => h) (Or.inl ⟨by kernel_rfl, ?_⟩) ?_; rotate_left; (focus (intro w; go_simp; try (with_reducible rfl))); (simp only [z1, z2]))
      apply dg_meet (f' := 1) (m' := 255)
      · intro M
        refine dg_ready [3, 7] (by kernel_rfl) rfl ?_
        refine dg_want 3 127 rfl (by kernel_rfl) rfl (fun K hK => ?_) ?_
        · skip
          (simp only [z3, z4, z5])
          (first | ((with_reducible apply gLo F (hr := H1.out) (hi := HM.out)); (rw [qC_size]; decide); exact rfl; exact rowQ _; go_simp) | ((with_reducible apply gLo F (hr := H2.out) (hi := HM.out)); (rw [qC_size]; decide); exact rfl; exact rowQ _; go_simp) | (first | ((with_reducible apply gL F); exact rfl; (exact tL); (with_reducible exact rowQ _); go_simp) | ((refine ⟨?_⟩); go_simp)))
          (refine hK _ _ ?_; clear hK K)
          refine dg_one 7 255 (by kernel_rfl) rfl (by kernel_rfl) rfl (fun K hK => ?_)
          (simp only [z3, z4, z5])
          (first | ((with_reducible apply gLo F (hr := H1.out) (hi := HM.out)); (rw [qC_size]; decide); exact rfl; exact rowQ _; go_simp) | ((with_reducible apply gLo F (hr := H2.out) (hi := HM.out)); (rw [qC_size]; decide); exact rfl; exact rowQ _; go_simp) | (first | ((with_reducible apply gL F); exact rfl; (exact tL); (with_reducible exact rowQ _); go_simp) | ((refine ⟨?_⟩); go_simp)))
          (refine hK _ _ ?_; clear hK K)
          exact M _ F
        refine dg_want 7 247 rfl (by kernel_rfl) rfl (fun K hK => ?_) ?_
        · skip
          (simp only [z3, z4, z5])
          (first | ((with_reducible apply gLo F (hr := H1.out) (hi := HM.out)); (rw [qC_size]; decide); exact rfl; exact rowQ _; go_simp) | ((with_reducible apply gLo F (hr := H2.out) (hi := HM.out)); (rw [qC_size]; decide); exact rfl; exact rowQ _; go_simp) | (first | ((with_reducible apply gL F); exact rfl; (exact tL); (with_reducible exact rowQ _); go_simp) | ((refine ⟨?_⟩); go_simp)))
          (refine hK _ _ ?_; clear hK K)
          refine dg_one 3 255 (by kernel_rfl) rfl (by kernel_rfl) rfl (fun K hK => ?_)
          (simp only [z3, z4, z5])
          (first | ((with_reducible apply gLo F (hr := H1.out) (hi := HM.out)); (rw [qC_size]; decide); exact rfl; exact rowQ _; go_simp) | ((with_reducible apply gLo F (hr := H2.out) (hi := HM.out)); (rw [qC_size]; decide); exact rfl; exact rowQ _; go_simp) | (first | ((with_reducible apply gL F); exact rfl; (exact tL); (with_reducible exact rowQ _); go_simp) | ((refine ⟨?_⟩); go_simp)))
          (refine hK _ _ ?_; clear hK K)
          exact M _ F
        exact dg_nil
      clear F
      intro W F
      refine dg_one 8 511 (by kernel_rfl) rfl (by kernel_rfl) rfl (fun K hK => ?_)
      (simp only [z3, z4, z5])
      ((refine ⟨?_⟩); go_simp)
      (refine hK _ _ ?_; clear hK K)
      refine dg_end (by kernel_rfl) ?_ _
      go_wp2_with (first | go_skip | refine aYQ ?_)
      go_roundw
      case rel => exact ⟨i + 1, by omega, by go_num, Fr.nil F.below⟩
      case measure => simp [intOf]; omega
    · go_wp2_with (first | go_skip | refine aYQ ?_)
      go_ret
      exact ⟨rfl, F.below⟩
theorem visQ_mem {L : List QT} {k : Int} {q : QT} (h : q ∈ visQ L k) : q ∈ L := by
  unfold visQ atIs at h
  obtain ⟨i, -, hi⟩ := List.mem_flatMap.1 h
  unfold atI at hi
  split at hi
  · rename_i y hy
    rw [List.mem_singleton] at hi
    rw [hi]
    exact List.mem_of_getElem? hy
  · cases hi
theorem visQ_len {L : List QT} {k : Int} : (visQ L k).length ≤ L.length := by
  unfold visQ
  rw [atIs_len (fun i hi => (vis_lt hi).2)]
  have := visF_len (ms := L.map QT.mark) (k := k) (L.map QT.mark).length
  rw [List.length_map] at this
  unfold vis
  rw [List.length_map]
  exact this
theorem atV_of {V : List QT} {s i : List UInt8} {d : Int} {p : QT → Prop} (h0 : p q0) (h : ∀ q ∈ V, p q) : p (atV V s i d).1 := by
  unfold atV
  split
  · rename_i q hq
    exact h q (List.mem_of_find?_eq_some hq)
  · exact h0
set_option maxRecDepth 100000 in
theorem quoteBooks_any {L : List QT} {A : Option Addr} {cp : Nat} {k d : Int} {s i : List UInt8} {w : World} (hL : L.length ≤ 1000000000000) (h : QuAt w A L) : Calls Tryz.prog 3 #[.slice A L.length cp, .int .i64 k, .string (bs s), .string (bs i), .int .i64 d] w (RetB (.bool true) w) := by
  have F := Fr.start w
  obtain ⟨er, her⟩ : ∃ er, bkErr L = er := ⟨_, rfl⟩
  obtain ⟨V, hV⟩ : ∃ V, (if er = 0 then visQ L k else []) = V := ⟨_, rfl⟩
  obtain ⟨r, hr⟩ : ∃ r, (if er = 0 then atV (visQ L k) s i d else (q0, false)) = r := ⟨_, rfl⟩
  have hVl : V.length ≤ 9223372036854775807 := by
    rw [← hV]
    split
    · have := visQ_len (L := L) (k := k); omega
    · simp
  have hVb : ∀ q ∈ V, q.a < bp 32 ∧ q.b < bp 32 := by
    intro q hq
    rw [← hV] at hq
    split at hq
    · exact ⟨h.a q (visQ_mem hq), h.b q (visQ_mem hq)⟩
    · cases hq
  have hrb : r.1.a < bp 32 ∧ r.1.b < bp 32 := by
    rw [← hr]
    split
    · exact atV_of (p := fun q => q.a < bp 32 ∧ q.b < bp 32) ⟨bp_pos 32, bp_pos 32⟩ (fun q hq => ⟨h.a q (visQ_mem hq), h.b q (visQ_mem hq)⟩)
    · exact ⟨bp_pos 32, bp_pos 32⟩
  have g1 := fun W (hb : Below w.heap.size w W) => qvis_any (cp := cp) (k := k) hL (h.below hb) her
  have g2 := fun W (hb : Below w.heap.size w W) => rvis_any (cp := cp) (k := k) hL (h.below hb) her
  have g3 := fun W (hb : Below w.heap.size w W) => qat_any (cp := cp) (k := k) (d := d) (s := s) (i := i) hL (h.below hb) her hr
  have g4 := fun W (hb : Below w.heap.size w W) => rat_any (cp := cp) (k := k) (d := d) (s := s) (i := i) hL (h.below hb) her hr
  have g5 := fun W (hb : Below w.heap.size w W) => qcheck_any (cp := cp) hL (h.below hb) her
  have g6 := fun W (hb : Below w.heap.size w W) => rcheck_any (cp := cp) hL (h.below hb) her
  have g7 := fun w => qknown14_any w
  have qq := fun w => eq_quo r.1 hrb.1 hrb.2 w
  rw [hV] at g1 g2
  obtain ⟨r1, r2⟩ := r
  dsimp only at g3 g4 qq
  have HVL := Lib.hid hVl
  have HVB := Lib.hid hVb
  clear h her hV hr hVl hVb hrb hL
  generalize bs s = S at *
  generalize bs i = I at *
  go_enter Tryz.func3, Tryz.ntmps3
  go_upto_region 2 with (first | go_skip | (go_at_call 9; refine (g1 _ F.below).mono ?_; rintro e W1 ⟨v1, rfl, hO⟩; have F2 := F.next hO.below; clear F; obtain ⟨A1, c1, rfl, hR1⟩ := VisP.at hO HVL.out; have HR1 := Lib.hid hR1; clear hO hR1 g1; have F := F2; clear F2; (try dsimp only)) | refine aYQ ?_ | (refine aTQ ?_; clear F; intro W F) | refine aNQ ?_)
  go_upto_region 3 with (first | go_skip | (go_at_call 10; refine (g2 _ F.below).mono ?_; rintro e W2 ⟨v2, rfl, hO⟩; have F2 := F.next hO.below; have HR3 := Lib.hid (HR1.out.below hO.below); clear F HR1; obtain ⟨A2, c2, rfl, hR2⟩ := VisP.at hO HVL.out; have HR2 := Lib.hid hR2; clear hO hR2 g2; have F := F2; clear F2; (try dsimp only)) | refine aYQ ?_ | (refine aTQ ?_; clear F; intro W F) | refine aNQ ?_)
  have HW := Lib.hid F.below
  clear F
  have F := Fr.start W2
  go_wp2_with (first | go_skip | ((go_at_call 11); (with_reducible refine fr_call F (g3 _ (bnext HW.out F.below)) ?_); (clear F; intro W F); (try dsimp only)) | refine aYQ ?_ | (refine aTQ ?_; clear F; intro W F) | refine aNQ ?_)
  (clear F; intro b15 W F; try simp only [Act.put, z6, z1, z2])
  go_wp2_with (first | go_skip | ((go_at_call 12); (with_reducible refine fr_call F (g4 _ (bnext HW.out F.below)) ?_); (clear F; intro W F); (try dsimp only)) | refine aYQ ?_ | (refine aTQ ?_; clear F; intro W F) | refine aNQ ?_)
  (clear F; intro b18 W F; try simp only [Act.put, z6, z1, z2])
  go_wp2_with (first | go_skip | ((go_at_call 13); (with_reducible refine fr_call F (g7 _) ?_); (clear F; intro W F); (try dsimp only)) | ((go_at_call 14); (with_reducible refine fr_call F (g5 _ (bnext HW.out F.below)) ?_); (clear F; intro W F); (try dsimp only)) | ((go_at_call 15); (with_reducible refine fr_call F (g6 _ (bnext HW.out F.below)) ?_); (clear F; intro W F); (try dsimp only)) | ((go_at_call 16); (with_reducible refine fr_call F (same_any (HR3.out.below F.below) (HR2.out.below F.below) HVB.out) ?_); (clear F; intro W F); (try dsimp only)) | refine aYQ ?_ | (refine aTQ ?_; clear F; intro W F) | refine aNQ ?_)
  go_ret
  exact ⟨rfl, bnext HW.out F.below⟩
end
section
open Go.RowKit
set_option maxHeartbeats 4000000
theorem mksFrom_snoc {x : MK} : ∀ {l : List MK} {last : Int}, mksFrom last l = true → x.ok = true → (∀ y ∈ l, y.known < x.known) → last < x.known → mksFrom last (l ++ [x]) = true
  | [], last, _, h1, _, h2 => by
      show (x.ok && decide (last < x.known) && true) = true
      rw [h1, decide_eq_true h2]
      rfl
  | y :: l, last, h, h1, h2, h3 => by
      have h' : (y.ok && decide (last < y.known) && mksFrom y.known l) = true := h
      rw [Bool.and_eq_true] at h'
      show (y.ok && decide (last < y.known) && mksFrom y.known (l ++ [x])) = true
      rw [h'.1, mksFrom_snoc h'.2 h1 (fun z hz => h2 z (List.mem_cons_of_mem _ hz)) (h2 y (List.mem_cons_self ..))]
      rfl
theorem mark_ok {q : QT} (h : q.right = true) (hk : q.known ≤ 2147483647) : q.mark.ok = true := by
  have hd := dayL_len q.day
  unfold QT.right at h
  simp only [Bool.and_eq_true, decide_eq_true_eq] at h
  obtain ⟨h1, h2, -⟩ := h
  unfold nameB at h1
  unfold paperB at h2
  simp only [Bool.and_eq_true, decide_eq_true_eq] at h1 h2
  refine MK.ok_iff.2 ⟨?_, hk⟩
  unfold QT.mark QT.key
  dsimp only
  rw [bs_size]
  simp only [List.length_append, List.length_cons]
  omega
theorem MB.nil : MB [] 0 := ⟨rfl, rfl, by simp, Int.le_refl 0, by simp⟩
theorem MB.le_trans {L : List QT} {k m : Int} (h : MB L k) (hm : k ≤ m) : MB L m := ⟨h.ok, h.ms, fun q hq => Int.le_trans (h.le q hq) hm, Int.le_trans h.pos hm, h.mem⟩
theorem MB.snoc {L : List QT} {k m : Int} {q : QT} (h : MB L k) (hq : QuoV m q) (hk : k < m) (hm : m ≤ 2147483647) : MB (L ++ [q]) m := by
  have hp := h.pos
  have e := hq.known
  refine ⟨?_, ?_, fun x hx => ?_, by omega, fun x hx => ?_⟩
  · rw [List.all_append, h.ok]
    simp only [List.all_cons, List.all_nil, Bool.and_true, Bool.true_and]
    unfold QT.ok
    rw [hq.right, e, Bool.true_and]
    exact (knB_iff m).2 ⟨by omega, hm⟩
  · rw [List.map_append]
    refine mksFrom_snoc h.ms (mark_ok hq.right (by omega)) (fun y hy => ?_) ?_
    · obtain ⟨x, hx, rfl⟩ := List.mem_map.1 hy
      have := h.le x hx
      show x.known < q.known
      omega
    · show 0 < q.known
      omega
  · rcases List.mem_append.1 hx with hx | hx
    · have := h.le x hx
      omega
    · rw [List.mem_singleton.1 hx]
      omega
  · rcases List.mem_append.1 hx with hx | hx
    · exact h.mem x hx
    · rw [List.mem_singleton.1 hx, e]
      exact hq
def QuosP (n : Nat) (B b N : Nat) (w : World) (e : Ending) (w' : World) : Prop :=
  ∃ (L : List QT) (v : Value) (X : List Ent) (u : World), e = .returned v ∧ L.length = n ∧ MB L ((6 * n : Nat) : Int) ∧ SlG 33 72 v n (qCs L) X ∧ Tp w u B b N ∧ Fr u w' X
theorem pick_gap {r : Int} (h : r ∈ [0, 0, 1, 5]) : 0 ≤ r ∧ r ≤ 5 := by
  simp only [List.mem_cons, List.not_mem_nil, or_false] at h
  omega
theorem pick_day {r : Int} (h : r ∈ [0, 0, 0, 1]) : 0 ≤ r ∧ r ≤ 1 := by
  simp only [List.mem_cons, List.not_mem_nil, or_false] at h
  omega
set_option maxRecDepth 100000 in
theorem tquotes {B b N n : Nat} {w : World} {day : Int} (hn : n ≤ 100) (hd : 0 ≤ day ∧ day ≤ 73048) (h : TapeAt w B b (N + 11 * n)) : Calls Tryz.prog 18 #[.pointer (some ⟨b, 0, none⟩), .int .i64 n, .int .i64 day] w (QuosP n B b N w) := by
  have F := Fr.start w
  have T := Tp.start h
  clear h
  go_enter Tryz.func18, Tryz.ntmps18
  go_wp2_with (first | go_skip | ((with_reducible apply fSli F slInt); exact rfl; exact rfl; exact rfl; decide; decide; (go_simp; exact rfl); exact rfl) | ((with_reducible apply fSli F slStr); exact rfl; exact rfl; exact rfl; decide; decide; (go_simp; exact rfl); exact rfl))
  go_loopw [7, 8, 9] (fun lv kv iv wr => ∃ (i : Nat) (kn : Int) (L : List QT) (X : List Ent) (u : World), i ≤ n ∧ kv = .int .i64 kn ∧ iv = .int .i64 i ∧ L.length = i ∧ kn ≤ ((6 * i : Nat) : Int) ∧ MB L kn ∧ SlG 33 72 lv i (qCs L) X ∧ Tp w u B b (N + 11 * (n - i)) ∧ Fr u wr X) (fun _ _ iv _ => n - (intOf iv).toNat)
  case atStart => exact ⟨0, 0, [], [], _, by omega, rfl, rfl, rfl, by omega, MB.nil, SlG.nil _ _, T, F⟩
  case round =>
    clear F T
    obtain ⟨i, kn, L, X, u, hi, rfl, rfl, hLi, hk, hM, S, T, F⟩ := hrel
    have HS := Lib.hid S
    have HM := Lib.hid hM
    have HL := Lib.hid hLi
    have hk0 := hM.pos
    clear S hM hLi
    by_cases hlt : i < n
    · obtain ⟨M, hM1⟩ : ∃ M, N + 11 * (n - i) = M + 11 ∧ M = N + 11 * (n - (i + 1)) := ⟨N + 11 * (n - (i + 1)), by omega, rfl⟩
      rw [hM1.1] at T
      have HMM := Lib.hid hM1.2
      clear hM1
      go_wp2_with (first | go_skip | ((with_reducible apply fSli F slInt); exact rfl; exact rfl; exact rfl; decide; decide; (go_simp; exact rfl); exact rfl) | ((with_reducible apply fSli F slStr); exact rfl; exact rfl; exact rfl; decide; decide; (go_simp; exact rfl); exact rfl))
      (clear F; intro b17 W F; try simp only [Act.put, z6, z1, z2])
      go_wp2_with (first | go_skip | ((go_at_call 30); (with_reducible refine fr_tap F T (tpickF [0, 0, 1, 5] F T tL (by with_unfolding_all rfl) (by with_unfolding_all rfl) (by simp) (by simp)) ?_); (try clear F T); (rintro _ u W ⟨r, rfl, hr⟩ T F); (replace hr := pick_gap hr); (try dsimp only)) | ((with_reducible apply fSli F slInt); exact rfl; exact rfl; exact rfl; decide; decide; (go_simp; exact rfl); exact rfl) | ((with_reducible apply fSli F slStr); exact rfl; exact rfl; exact rfl; decide; decide; (go_simp; exact rfl); exact rfl))
      (clear F; intro b25 W F; try simp only [Act.put, z6, z1, z2])
      go_wp2_with (first | go_skip | ((go_at_call 30); (with_reducible refine fr_tap F T (tpickF [0, 0, 0, 1] F T tL (by with_unfolding_all rfl) (by with_unfolding_all rfl) (by simp) (by simp)) ?_); (try clear F T); (rintro _ u W ⟨s, rfl, hs⟩ T F); (replace hs := pick_day hs); (try dsimp only)) | ((with_reducible apply fSli F slInt); exact rfl; exact rfl; exact rfl; decide; decide; (go_simp; exact rfl); exact rfl) | ((with_reducible apply fSli F slStr); exact rfl; exact rfl; exact rfl; decide; decide; (go_simp; exact rfl); exact rfl))
      go_wp2_with (first | go_skip | ((go_at_call 23); (with_reducible refine fr_tap F T (tquote (N := M) (by omega) (T.at F)) ?_); (try clear F T); (rintro _ u W ⟨q, rfl, hq⟩ T F); (try dsimp only)) | ((with_reducible apply fSli F slQuo); exact rfl; exact rfl; exact rfl; decide; decide; (go_simp; exact rfl); (exact q_all _)) | ((with_reducible apply fSli F slInt); exact rfl; exact rfl; exact rfl; decide; decide; (go_simp; exact rfl); exact rfl) | ((with_reducible apply fSli F slStr); exact rfl; exact rfl; exact rfl; decide; decide; (go_simp; exact rfl); exact rfl))
      (clear F; intro b31 W F; try simp only [Act.put, z6, z1, z2])
      replace F := F.sub (L' := (b31, flatC [.agg (qC q)], 33) :: X) (List.Sublist.cons_cons _ (List.Sublist.cons _ (List.Sublist.cons _ (List.Sublist.refl _))))
      have hk2 : kn + (1 + r) ≤ 2147483647 := by omega
      have HM2 := Lib.hid (HM.out.snoc hq (by omega) hk2)
      clear hq hk2 HM
      go_wp2_with (first | go_skip | ((with_reducible apply fPushB elQuo (n := i) (by unfold maxLen; omega) (by omega) HS.out F); exact rfl; exact rfl; exact rfl; exact q_flat q; exact q_one q; (clear F HS); (intro v' X' W' S' F')) | ((with_reducible apply fSli F slInt); exact rfl; exact rfl; exact rfl; decide; decide; (go_simp; exact rfl); exact rfl) | ((with_reducible apply fSli F slStr); exact rfl; exact rfl; exact rfl; decide; decide; (go_simp; exact rfl); exact rfl))
      go_roundw
      case rel => exact ⟨i + 1, kn + (1 + r), L ++ [q], X', u, by omega, rfl, by go_num, by rw [List.length_append, HL.out]; rfl, by omega, HM2.out, by rw [qCs_snoc, ← flatC_q]; exact S', by rw [← HMM.out]; exact T, F'⟩
      case measure => simp [intOf]; omega
    · obtain rfl : i = n := by omega
      go_wp2_with (first | go_skip | ((with_reducible apply fSli F slInt); exact rfl; exact rfl; exact rfl; decide; decide; (go_simp; exact rfl); exact rfl) | ((with_reducible apply fSli F slStr); exact rfl; exact rfl; exact rfl; decide; decide; (go_simp; exact rfl); exact rfl))
      go_ret
      refine ⟨L, _, X, u, rfl, HL.out, HM.out.le_trans hk, HS.out, ?_, F⟩
      exact T.less (by omega)
end
section
open Go.RowKit
set_option maxHeartbeats 4000000
theorem quos_tp {w u u2 W : World} {B b M N : Nat} {L : List Ent} (F : Fr u W L) (T : Tp w u B b M) (h : Tp W u2 B b N) : Tp w u2 B b N := ⟨only_trans (T.out F) h.only, h.tape⟩
theorem SlG.book {u W : World} {A : Option Addr} {c : Nat} {L : List QT} {X : List Ent} {k : Int} (S : SlG 33 72 (.slice A L.length c) L.length (qCs L) X) (hM : MB L k) (hl : L.length ≤ 1000) (F : Fr u W X) : QuAt W A L := by
  obtain ⟨A', c', e, h⟩ := hM.at (S.ownL F) (by omega)
  cases e
  exact h
theorem Fr.last {w W : World} {X : List Ent} {x : Ent} (F : Fr w W (x :: X)) : Fr w W X := F.sub (List.Sublist.cons _ (List.Sublist.refl _))
set_option maxRecDepth 100000 in
theorem quotePlays_any (A0 : Option Addr) (L0 : List Int) (cap : Nat) {w : World} (hL : IntsAt w A0 L0) : Calls Tryz.prog 4 #[.slice A0 L0.length cap] w (RetB (.bool true) w) := by
  have T0 := tape_start (cap := cap) hL
  have HO := Lib.hid (fun u W N L (T : Tp (w.alloc (.cells #[.slice A0 L0.length cap, .int .i64 0] 43)) u w.heap.size w.heap.size N) (F : Fr u W L) => (show RetB (.bool true) w (.returned (.bool true)) W from ⟨rfl, qtape_out T F⟩))
  clear hL
  go_enter Tryz.func4, Tryz.ntmps4
  go_upto_region 2 with fail
  have F := Fr.start (w.alloc (.cells #[.slice A0 L0.length cap, .int .i64 0] 43))
  have T := Tp.start T0
  clear T0
  generalize w.alloc (.cells #[.slice A0 L0.length cap, .int .i64 0] 43) = w1 at *
  generalize w.heap.size = b at *
  go_upto_region 4 with (first | go_skip | ((go_at_call 17); (with_reducible refine fr_tap F T (tday (T.at F)) ?_); (try clear F T); (rintro _ u W ⟨day, rfl, hd⟩ T F); (try dsimp only)) | ((go_at_call 19); (with_reducible refine fr_tap F T (tnext _ (by decide) (by decide) (T.at F)) ?_); (try clear F T); (rintro _ u W ⟨n, rfl, hn⟩ T F); (have hn2 : n ≤ 100 := by omega); (have T9 := T.less (M := 1000 + 11 * n) (by omega)); (try dsimp only)) | (go_at_call 18; (refine (tquotes hn2 hd (T9.at F)).mono ?_); (rintro e W2 ⟨L, v, X, u2, rfl, hLn, hM, S, T2, F2⟩); (replace T := quos_tp F T9 T2); (clear F T2 T9); have F := F2; clear F2; (try dsimp only)) | refine aYQ ?_ | refine aNQ ?_)
  subst hLn
  obtain ⟨A, c, rfl, -⟩ := hM.at (S.ownL F) (by omega)
  have hl : L.length ≤ 1000000000000 := by omega
  have gb : ∀ (k d : Int) (s i : List UInt8) (u W : World), Fr u W X → Calls Tryz.prog 3 #[.slice A L.length c, .int .i64 k, .string (bs s), .string (bs i), .int .i64 d] W (RetB (.bool true) W) := fun k d s i u W F => quoteBooks_any hl (S.book hM (by omega) F)
  clear S hM hn hn2 hl
  generalize L.length = n at *
  go_wp2_with (first | go_skip | refine aYQ ?_ | refine aNQ ?_)
  go_loopw [6] (fun iv wr => ∃ (i : Nat) (u : World), i ≤ 3 ∧ iv = .int .i64 i ∧ Tp w1 u b b (4 * (3 - i)) ∧ Fr u wr X) (fun iv _ => 4 - (intOf iv).toNat)
  case atStart => exact ⟨0, _, by omega, rfl, T.less (by omega), F⟩
  case round =>
    clear F T
    obtain ⟨i, u, hi, rfl, T, F⟩ := hrel
    by_cases hlt : i < 3
    · obtain ⟨M, hM1, hM2⟩ : ∃ M, 4 * (3 - i) = M + 4 ∧ M = 4 * (3 - (i + 1)) := ⟨4 * (3 - (i + 1)), by omega, rfl⟩
      rw [hM1] at T
      have HM2 := Lib.hid hM2
      clear hM1 hM2
      go_upto_region 7 with (first | go_skip | refine aYQ ?_ | refine aNQ ?_)
      try simp only [Act.put, z6, z1, z2]
      refine wp_region_bm 17 (by kernel_rfl) rfl ?_
      replace F := F.drew
      revert F
      generalize World.drew _ = W
      intro F
      (refine dg_take 0 21 1 (v := ?_) rfl (by kernel_rfl) (by kernel_rfl) (by kernel_rfl) (by kernel_rfl) (by kernel_rfl) (fun _ _ _ h => h) (Or.inl ⟨by kernel_rfl, ?_⟩) ?_; rotate_left; (focus (intro w; go_simp; try (with_reducible rfl))); (simp only [z1, z2]))
      (refine dg_take 1 22 3 (v := ?_) rfl (by kernel_rfl) (by kernel_rfl) (by kernel_rfl) (by kernel_rfl) (by kernel_rfl) (fun _ _ _ h => h) (Or.inl ⟨by kernel_rfl, ?_⟩) ?_; rotate_left; (focus (intro w; go_simp; try (with_reducible rfl))); (simp only [z1, z2]))
      (refine dg_take 4 25 19 (v := ?_) rfl (by kernel_rfl) (by kernel_rfl) (by kernel_rfl) (by kernel_rfl) (by kernel_rfl) (fun _ _ _ h => h) (Or.inl ⟨by kernel_rfl, ?_⟩) ?_; rotate_left; (focus (intro w; go_simp; try (with_reducible rfl))); (simp only [z1, z2]))
      (refine dg_take 8 29 275 (v := ?_) rfl (by kernel_rfl) (by kernel_rfl) (by kernel_rfl) (by kernel_rfl) (by kernel_rfl) (fun _ _ _ h => h) (Or.inl ⟨by kernel_rfl, ?_⟩) ?_; rotate_left; (focus (intro w; go_simp; try (with_reducible rfl))); (simp only [z1, z2]))
      (refine dg_take 10 31 1299 (v := ?_) rfl (by kernel_rfl) (by kernel_rfl) (by kernel_rfl) (by kernel_rfl) (by kernel_rfl) (fun _ _ _ h => h) (Or.inl ⟨by kernel_rfl, ?_⟩) ?_; rotate_left; (focus (intro w; go_simp; try (with_reducible rfl))); (simp only [z1, z2]))
      (refine dg_take 11 32 3347 (v := ?_) rfl (by kernel_rfl) (by kernel_rfl) (by kernel_rfl) (by kernel_rfl) (by kernel_rfl) (fun _ _ _ h => h) (Or.inl ⟨by kernel_rfl, ?_⟩) ?_; rotate_left; (focus (intro w; go_simp; try (with_reducible rfl))); (simp only [z1, z2]))
      refine dg_one 2 3351 (by kernel_rfl) rfl (by kernel_rfl) rfl (fun K hK => ?_)
      (simp only [z3, z4, z5])
      ((refine ⟨?_⟩); go_simp; (first | ((with_reducible refine fr_tap F T (trange _ _ (by decide) (by decide) (by decide) (T.at F)) ?_); (try clear F T); (rintro _ u W ⟨k, rfl, hk⟩ T F); (try dsimp only)) | ((refine (sources_any _).mono ?_); (rintro e W2 ⟨g, rfl, hb1, hb2, hb3⟩); (replace F := Fr.push F hb1 hb2 hb3); (clear hb1 hb2 hb3); (try dsimp only)) | ((with_reducible refine fr_tap F T (tnext _ (by decide) (by decide) (T.at F)) ?_); (try clear F T); (rintro _ u W ⟨j, rfl, hj⟩ T F); (try dsimp only)) | ((with_reducible refine fr_tap F T (tpaper (T.at F)) ?_); (try clear F T); (rintro _ u W ⟨p, rfl, hp⟩ T F); (try dsimp only)) | ((with_reducible refine fr_call F (gb _ _ _ _ _ _ (Fr.last F)) ?_); (try clear F); (intro W F); (try dsimp only)) | skip))
      (refine hK _ _ ?_; clear hK K)
      refine dg_one 3 3359 (by kernel_rfl) rfl (by kernel_rfl) rfl (fun K hK => ?_)
      (simp only [z3, z4, z5])
      ((refine ⟨?_⟩); go_simp; (first | ((with_reducible refine fr_tap F T (trange _ _ (by decide) (by decide) (by decide) (T.at F)) ?_); (try clear F T); (rintro _ u W ⟨k, rfl, hk⟩ T F); (try dsimp only)) | ((refine (sources_any _).mono ?_); (rintro e W2 ⟨g, rfl, hb1, hb2, hb3⟩); (replace F := Fr.push F hb1 hb2 hb3); (clear hb1 hb2 hb3); (try dsimp only)) | ((with_reducible refine fr_tap F T (tnext _ (by decide) (by decide) (T.at F)) ?_); (try clear F T); (rintro _ u W ⟨j, rfl, hj⟩ T F); (try dsimp only)) | ((with_reducible refine fr_tap F T (tpaper (T.at F)) ?_); (try clear F T); (rintro _ u W ⟨p, rfl, hp⟩ T F); (try dsimp only)) | ((with_reducible refine fr_call F (gb _ _ _ _ _ _ (Fr.last F)) ?_); (try clear F); (intro W F); (try dsimp only)) | skip))
      (refine hK _ _ ?_; clear hK K)
      refine dg_one 5 3391 (by kernel_rfl) rfl (by kernel_rfl) rfl (fun K hK => ?_)
      (simp only [z3, z4, z5])
      ((refine ⟨?_⟩); go_simp; (first | ((with_reducible refine fr_tap F T (trange _ _ (by decide) (by decide) (by decide) (T.at F)) ?_); (try clear F T); (rintro _ u W ⟨k, rfl, hk⟩ T F); (try dsimp only)) | ((refine (sources_any _).mono ?_); (rintro e W2 ⟨g, rfl, hb1, hb2, hb3⟩); (replace F := Fr.push F hb1 hb2 hb3); (clear hb1 hb2 hb3); (try dsimp only)) | ((with_reducible refine fr_tap F T (tnext _ (by decide) (by decide) (T.at F)) ?_); (try clear F T); (rintro _ u W ⟨j, rfl, hj⟩ T F); (try dsimp only)) | ((with_reducible refine fr_tap F T (tpaper (T.at F)) ?_); (try clear F T); (rintro _ u W ⟨p, rfl, hp⟩ T F); (try dsimp only)) | ((with_reducible refine fr_call F (gb _ _ _ _ _ _ (Fr.last F)) ?_); (try clear F); (intro W F); (try dsimp only)) | skip))
      (refine hK _ _ ?_; clear hK K)
      (refine dg_take 6 27 3455 (v := ?_) rfl (by kernel_rfl) (by kernel_rfl) (by kernel_rfl) (by kernel_rfl) (by kernel_rfl) (fun _ _ _ h => h) (Or.inl ⟨by kernel_rfl, ?_⟩) ?_; rotate_left; (focus (intro w; go_simp; try (with_reducible rfl))); (simp only [z1, z2]))
      apply dg_m3 (f' := 2) (m' := 32767) (H := fun (p : Bs) (j : Nat) (u : World) (W : World) => (j : Int) < 4 ∧ Tp w1 u b b M ∧ Fr u W ((g, srcC, 9) :: X))
      · intro M
        refine dg_ready [7, 9] (by kernel_rfl) rfl ?_
        refine dg_want 7 3583 rfl (by kernel_rfl) rfl (fun K hK => ?_) ?_
        · skip
          (simp only [z3, z4, z5])
          (first | ((with_reducible apply gLc F); exact rfl; (exact tL); (with_reducible exact scStr); (exact src_at (by omega)); go_simp) | (first | ((with_reducible apply gLc F); exact rfl; (exact tL); (with_reducible exact scStr); (first | (with_reducible exact q_src _) | (with_reducible exact q_ins _) | (with_reducible exact q_cur _) | (with_reducible exact q_day _) | (with_reducible exact q_known _) | (with_reducible exact q_void _) | exact rfl); go_simp) | ((refine ⟨?_⟩); go_simp)))
          (refine hK _ _ ?_; clear hK K)
          refine dg_one 9 4095 (by kernel_rfl) rfl (by kernel_rfl) rfl (fun K hK => ?_)
          (simp only [z3, z4, z5])
          ((refine ⟨?_⟩); go_simp; (first | ((with_reducible refine fr_tap F T (trange _ _ (by decide) (by decide) (by decide) (T.at F)) ?_); (try clear F T); (rintro _ u W ⟨k, rfl, hk⟩ T F); (try dsimp only)) | ((refine (sources_any _).mono ?_); (rintro e W2 ⟨g, rfl, hb1, hb2, hb3⟩); (replace F := Fr.push F hb1 hb2 hb3); (clear hb1 hb2 hb3); (try dsimp only)) | ((with_reducible refine fr_tap F T (tnext _ (by decide) (by decide) (T.at F)) ?_); (try clear F T); (rintro _ u W ⟨j, rfl, hj⟩ T F); (try dsimp only)) | ((with_reducible refine fr_tap F T (tpaper (T.at F)) ?_); (try clear F T); (rintro _ u W ⟨p, rfl, hp⟩ T F); (try dsimp only)) | ((with_reducible refine fr_call F (gb _ _ _ _ _ _ (Fr.last F)) ?_); (try clear F); (intro W F); (try dsimp only)) | skip))
          (refine hK _ _ ?_; clear hK K)
          refine dg_one 12 8191 (by kernel_rfl) rfl (by kernel_rfl) rfl (fun K hK => ?_)
          (simp only [z3, z4, z5])
          ((refine ⟨?_⟩); go_simp; (first | ((with_reducible refine fr_tap F T (trange _ _ (by decide) (by decide) (by decide) (T.at F)) ?_); (try clear F T); (rintro _ u W ⟨k, rfl, hk⟩ T F); (try dsimp only)) | ((refine (sources_any _).mono ?_); (rintro e W2 ⟨g, rfl, hb1, hb2, hb3⟩); (replace F := Fr.push F hb1 hb2 hb3); (clear hb1 hb2 hb3); (try dsimp only)) | ((with_reducible refine fr_tap F T (tnext _ (by decide) (by decide) (T.at F)) ?_); (try clear F T); (rintro _ u W ⟨j, rfl, hj⟩ T F); (try dsimp only)) | ((with_reducible refine fr_tap F T (tpaper (T.at F)) ?_); (try clear F T); (rintro _ u W ⟨p, rfl, hp⟩ T F); (try dsimp only)) | ((with_reducible refine fr_call F (gb _ _ _ _ _ _ (Fr.last F)) ?_); (try clear F); (intro W F); (try dsimp only)) | skip))
          (refine hK _ _ ?_; clear hK K)
          refine dg_one 13 16383 (by kernel_rfl) rfl (by kernel_rfl) rfl (fun K hK => ?_)
          (simp only [z3, z4, z5])
          ((refine ⟨?_⟩); go_simp)
          (refine hK _ _ ?_; clear hK K)
          refine dg_one 14 32767 (by kernel_rfl) rfl (by kernel_rfl) rfl (fun K hK => ?_)
          (simp only [z3, z4, z5])
          ((refine ⟨?_⟩); go_simp; (first | ((with_reducible refine fr_tap F T (trange _ _ (by decide) (by decide) (by decide) (T.at F)) ?_); (try clear F T); (rintro _ u W ⟨k, rfl, hk⟩ T F); (try dsimp only)) | ((refine (sources_any _).mono ?_); (rintro e W2 ⟨g, rfl, hb1, hb2, hb3⟩); (replace F := Fr.push F hb1 hb2 hb3); (clear hb1 hb2 hb3); (try dsimp only)) | ((with_reducible refine fr_tap F T (tnext _ (by decide) (by decide) (T.at F)) ?_); (try clear F T); (rintro _ u W ⟨j, rfl, hj⟩ T F); (try dsimp only)) | ((with_reducible refine fr_tap F T (tpaper (T.at F)) ?_); (try clear F T); (rintro _ u W ⟨p, rfl, hp⟩ T F); (try dsimp only)) | ((with_reducible refine fr_call F (gb _ _ _ _ _ _ (Fr.last F)) ?_); (try clear F); (intro W F); (try dsimp only)) | skip))
          (refine hK _ _ ?_; clear hK K)
          exact M p j u W ⟨hj, T, F⟩
        refine dg_want 9 3967 rfl (by kernel_rfl) rfl (fun K hK => ?_) ?_
        · skip
          (simp only [z3, z4, z5])
          ((refine ⟨?_⟩); go_simp; (first | ((with_reducible refine fr_tap F T (trange _ _ (by decide) (by decide) (by decide) (T.at F)) ?_); (try clear F T); (rintro _ u W ⟨k, rfl, hk⟩ T F); (try dsimp only)) | ((refine (sources_any _).mono ?_); (rintro e W2 ⟨g, rfl, hb1, hb2, hb3⟩); (replace F := Fr.push F hb1 hb2 hb3); (clear hb1 hb2 hb3); (try dsimp only)) | ((with_reducible refine fr_tap F T (tnext _ (by decide) (by decide) (T.at F)) ?_); (try clear F T); (rintro _ u W ⟨j, rfl, hj⟩ T F); (try dsimp only)) | ((with_reducible refine fr_tap F T (tpaper (T.at F)) ?_); (try clear F T); (rintro _ u W ⟨p, rfl, hp⟩ T F); (try dsimp only)) | ((with_reducible refine fr_call F (gb _ _ _ _ _ _ (Fr.last F)) ?_); (try clear F); (intro W F); (try dsimp only)) | skip))
          (refine hK _ _ ?_; clear hK K)
          refine dg_ready [7, 12] (by kernel_rfl) rfl ?_
          refine dg_want 7 4095 rfl (by kernel_rfl) rfl (fun K hK => ?_) ?_
          · skip
            (simp only [z3, z4, z5])
            (first | ((with_reducible apply gLc F); exact rfl; (exact tL); (with_reducible exact scStr); (exact src_at (by omega)); go_simp) | (first | ((with_reducible apply gLc F); exact rfl; (exact tL); (with_reducible exact scStr); (first | (with_reducible exact q_src _) | (with_reducible exact q_ins _) | (with_reducible exact q_cur _) | (with_reducible exact q_day _) | (with_reducible exact q_known _) | (with_reducible exact q_void _) | exact rfl); go_simp) | ((refine ⟨?_⟩); go_simp)))
            (refine hK _ _ ?_; clear hK K)
            refine dg_one 12 8191 (by kernel_rfl) rfl (by kernel_rfl) rfl (fun K hK => ?_)
            (simp only [z3, z4, z5])
            ((refine ⟨?_⟩); go_simp; (first | ((with_reducible refine fr_tap F T (trange _ _ (by decide) (by decide) (by decide) (T.at F)) ?_); (try clear F T); (rintro _ u W ⟨k, rfl, hk⟩ T F); (try dsimp only)) | ((refine (sources_any _).mono ?_); (rintro e W2 ⟨g, rfl, hb1, hb2, hb3⟩); (replace F := Fr.push F hb1 hb2 hb3); (clear hb1 hb2 hb3); (try dsimp only)) | ((with_reducible refine fr_tap F T (tnext _ (by decide) (by decide) (T.at F)) ?_); (try clear F T); (rintro _ u W ⟨j, rfl, hj⟩ T F); (try dsimp only)) | ((with_reducible refine fr_tap F T (tpaper (T.at F)) ?_); (try clear F T); (rintro _ u W ⟨p, rfl, hp⟩ T F); (try dsimp only)) | ((with_reducible refine fr_call F (gb _ _ _ _ _ _ (Fr.last F)) ?_); (try clear F); (intro W F); (try dsimp only)) | skip))
            (refine hK _ _ ?_; clear hK K)
            refine dg_one 13 16383 (by kernel_rfl) rfl (by kernel_rfl) rfl (fun K hK => ?_)
            (simp only [z3, z4, z5])
            ((refine ⟨?_⟩); go_simp)
            (refine hK _ _ ?_; clear hK K)
            refine dg_one 14 32767 (by kernel_rfl) rfl (by kernel_rfl) rfl (fun K hK => ?_)
            (simp only [z3, z4, z5])
            ((refine ⟨?_⟩); go_simp; (first | ((with_reducible refine fr_tap F T (trange _ _ (by decide) (by decide) (by decide) (T.at F)) ?_); (try clear F T); (rintro _ u W ⟨k, rfl, hk⟩ T F); (try dsimp only)) | ((refine (sources_any _).mono ?_); (rintro e W2 ⟨g, rfl, hb1, hb2, hb3⟩); (replace F := Fr.push F hb1 hb2 hb3); (clear hb1 hb2 hb3); (try dsimp only)) | ((with_reducible refine fr_tap F T (tnext _ (by decide) (by decide) (T.at F)) ?_); (try clear F T); (rintro _ u W ⟨j, rfl, hj⟩ T F); (try dsimp only)) | ((with_reducible refine fr_tap F T (tpaper (T.at F)) ?_); (try clear F T); (rintro _ u W ⟨p, rfl, hp⟩ T F); (try dsimp only)) | ((with_reducible refine fr_call F (gb _ _ _ _ _ _ (Fr.last F)) ?_); (try clear F); (intro W F); (try dsimp only)) | skip))
            (refine hK _ _ ?_; clear hK K)
            exact M p j u W ⟨hj, T, F⟩
          refine dg_want 12 8063 rfl (by kernel_rfl) rfl (fun K hK => ?_) ?_
          · skip
            (simp only [z3, z4, z5])
            ((refine ⟨?_⟩); go_simp; (first | ((with_reducible refine fr_tap F T (trange _ _ (by decide) (by decide) (by decide) (T.at F)) ?_); (try clear F T); (rintro _ u W ⟨k, rfl, hk⟩ T F); (try dsimp only)) | ((refine (sources_any _).mono ?_); (rintro e W2 ⟨g, rfl, hb1, hb2, hb3⟩); (replace F := Fr.push F hb1 hb2 hb3); (clear hb1 hb2 hb3); (try dsimp only)) | ((with_reducible refine fr_tap F T (tnext _ (by decide) (by decide) (T.at F)) ?_); (try clear F T); (rintro _ u W ⟨j, rfl, hj⟩ T F); (try dsimp only)) | ((with_reducible refine fr_tap F T (tpaper (T.at F)) ?_); (try clear F T); (rintro _ u W ⟨p, rfl, hp⟩ T F); (try dsimp only)) | ((with_reducible refine fr_call F (gb _ _ _ _ _ _ (Fr.last F)) ?_); (try clear F); (intro W F); (try dsimp only)) | skip))
            (refine hK _ _ ?_; clear hK K)
            (refine dg_take 13 34 16255 (v := ?_) rfl (by kernel_rfl) (by kernel_rfl) (by kernel_rfl) (by kernel_rfl) (by kernel_rfl) (fun _ _ _ h => h) (Or.inl ⟨by kernel_rfl, ?_⟩) ?_; rotate_left; (focus (intro w; go_simp; try (with_reducible rfl))); (simp only [z1, z2]))
            refine dg_ready [7, 14] (by kernel_rfl) rfl ?_
            refine dg_want 7 16383 rfl (by kernel_rfl) rfl (fun K hK => ?_) ?_
            · skip
              (simp only [z3, z4, z5])
              (first | ((with_reducible apply gLc F); exact rfl; (exact tL); (with_reducible exact scStr); (exact src_at (by omega)); go_simp) | (first | ((with_reducible apply gLc F); exact rfl; (exact tL); (with_reducible exact scStr); (first | (with_reducible exact q_src _) | (with_reducible exact q_ins _) | (with_reducible exact q_cur _) | (with_reducible exact q_day _) | (with_reducible exact q_known _) | (with_reducible exact q_void _) | exact rfl); go_simp) | ((refine ⟨?_⟩); go_simp)))
              (refine hK _ _ ?_; clear hK K)
              refine dg_one 14 32767 (by kernel_rfl) rfl (by kernel_rfl) rfl (fun K hK => ?_)
              (simp only [z3, z4, z5])
              ((refine ⟨?_⟩); go_simp; (first | ((with_reducible refine fr_tap F T (trange _ _ (by decide) (by decide) (by decide) (T.at F)) ?_); (try clear F T); (rintro _ u W ⟨k, rfl, hk⟩ T F); (try dsimp only)) | ((refine (sources_any _).mono ?_); (rintro e W2 ⟨g, rfl, hb1, hb2, hb3⟩); (replace F := Fr.push F hb1 hb2 hb3); (clear hb1 hb2 hb3); (try dsimp only)) | ((with_reducible refine fr_tap F T (tnext _ (by decide) (by decide) (T.at F)) ?_); (try clear F T); (rintro _ u W ⟨j, rfl, hj⟩ T F); (try dsimp only)) | ((with_reducible refine fr_tap F T (tpaper (T.at F)) ?_); (try clear F T); (rintro _ u W ⟨p, rfl, hp⟩ T F); (try dsimp only)) | ((with_reducible refine fr_call F (gb _ _ _ _ _ _ (Fr.last F)) ?_); (try clear F); (intro W F); (try dsimp only)) | skip))
              (refine hK _ _ ?_; clear hK K)
              exact M p j u W ⟨hj, T, F⟩
            refine dg_want 14 32639 rfl (by kernel_rfl) rfl (fun K hK => ?_) ?_
            · skip
              (simp only [z3, z4, z5])
              ((refine ⟨?_⟩); go_simp; (first | ((with_reducible refine fr_tap F T (trange _ _ (by decide) (by decide) (by decide) (T.at F)) ?_); (try clear F T); (rintro _ u W ⟨k, rfl, hk⟩ T F); (try dsimp only)) | ((refine (sources_any _).mono ?_); (rintro e W2 ⟨g, rfl, hb1, hb2, hb3⟩); (replace F := Fr.push F hb1 hb2 hb3); (clear hb1 hb2 hb3); (try dsimp only)) | ((with_reducible refine fr_tap F T (tnext _ (by decide) (by decide) (T.at F)) ?_); (try clear F T); (rintro _ u W ⟨j, rfl, hj⟩ T F); (try dsimp only)) | ((with_reducible refine fr_tap F T (tpaper (T.at F)) ?_); (try clear F T); (rintro _ u W ⟨p, rfl, hp⟩ T F); (try dsimp only)) | ((with_reducible refine fr_call F (gb _ _ _ _ _ _ (Fr.last F)) ?_); (try clear F); (intro W F); (try dsimp only)) | skip))
              (refine hK _ _ ?_; clear hK K)
              refine dg_one 7 32767 (by kernel_rfl) rfl (by kernel_rfl) rfl (fun K hK => ?_)
              (simp only [z3, z4, z5])
              (first | ((with_reducible apply gLc F); exact rfl; (exact tL); (with_reducible exact scStr); (exact src_at (by omega)); go_simp) | (first | ((with_reducible apply gLc F); exact rfl; (exact tL); (with_reducible exact scStr); (first | (with_reducible exact q_src _) | (with_reducible exact q_ins _) | (with_reducible exact q_cur _) | (with_reducible exact q_day _) | (with_reducible exact q_known _) | (with_reducible exact q_void _) | exact rfl); go_simp) | ((refine ⟨?_⟩); go_simp)))
              (refine hK _ _ ?_; clear hK K)
              exact M p j u W ⟨hj, T, F⟩
            exact dg_nil
          exact dg_nil
        exact dg_nil
      clear F T
      intro p j u W hM
      obtain ⟨hj, T, F⟩ := hM
      refine dg_one 15 65535 (by kernel_rfl) rfl (by kernel_rfl) rfl (fun K hK => ?_)
      (simp only [z3, z4, z5])
      ((refine ⟨?_⟩); go_simp; (first | ((with_reducible refine fr_tap F T (trange _ _ (by decide) (by decide) (by decide) (T.at F)) ?_); (try clear F T); (rintro _ u W ⟨k, rfl, hk⟩ T F); (try dsimp only)) | ((refine (sources_any _).mono ?_); (rintro e W2 ⟨g, rfl, hb1, hb2, hb3⟩); (replace F := Fr.push F hb1 hb2 hb3); (clear hb1 hb2 hb3); (try dsimp only)) | ((with_reducible refine fr_tap F T (tnext _ (by decide) (by decide) (T.at F)) ?_); (try clear F T); (rintro _ u W ⟨j, rfl, hj⟩ T F); (try dsimp only)) | ((with_reducible refine fr_tap F T (tpaper (T.at F)) ?_); (try clear F T); (rintro _ u W ⟨p, rfl, hp⟩ T F); (try dsimp only)) | ((with_reducible refine fr_call F (gb _ _ _ _ _ _ (Fr.last F)) ?_); (try clear F); (intro W F); (try dsimp only)) | skip))
      (refine hK _ _ ?_; clear hK K)
      refine dg_one 16 131071 (by kernel_rfl) rfl (by kernel_rfl) rfl (fun K hK => ?_)
      (simp only [z3, z4, z5])
      ((refine ⟨?_⟩); go_simp)
      (refine hK _ _ ?_; clear hK K)
      refine dg_end (by kernel_rfl) ?_ _
      go_wp2_with (first | go_skip | refine aYQ ?_ | refine aNQ ?_)
      go_roundw
      case rel => exact ⟨i + 1, u, by omega, by go_num, by rw [← HM2.out]; exact T, Fr.last F⟩
      case measure => simp [intOf]; omega
    · go_wp2_with (first | go_skip | ((go_at_call 13); (with_reducible refine fr_call F (qknown14_any _) ?_); (clear F; intro W F); (try dsimp only)) | refine aYQ ?_ | refine aNQ ?_)
      go_ret
      exact HO.out _ _ _ _ T F
end
end Go.Proofs.YteaahhokaffmdaaGreatDoor
