/-
  The walks of dates: leap years, lengths, numbers.
-/
import Derived.Test.YtmjegmlchonlmaaDatePlain
import Derived.Test.YtmjegmlchonlmaaRows
namespace Go.Proofs.Ytmjegmlchonlmaa
open Go.RowKit
set_option maxHeartbeats 1000000

/-- Leap years, whatever the year. -/
def leapT (y : Int) : Bool := decide (Int.tmod y 4 = 0) && (decide (Int.tmod y 100 ≠ 0) || decide (Int.tmod y 400 = 0))
theorem dleap_any (y : Int) (w : World) : Calls Try.prog 53 #[.int .i64 y] w (RetW (.bool (leapT y)) w) := by
  unfold leapT
  go_enter Try.func53, Try.ntmps53
  go_wp2
  all_goals go_ret
  all_goals (refine ⟨ret_bool ?_, rfl⟩; rw [Bool.eq_iff_iff]; simp [*])
theorem rleap_any (y : Int) (w : World) : Calls Try.prog 54 #[.int .i64 y] w (RetW (.bool (leapT y)) w) := by
  unfold leapT
  go_enter Try.func54, Try.ntmps54
  go_wp2
  all_goals go_ret
  all_goals (refine ⟨ret_bool ?_, rfl⟩; rw [Bool.eq_iff_iff]; simp [*])
theorem leapT_in {y : Int} (h1 : 2000 ≤ y) (h2 : y ≤ 2199) : leapT y = decide (lp y = 1) := by
  unfold leapT lp
  rw [Int.tmod_eq_emod_of_nonneg (by omega), Int.tmod_eq_emod_of_nonneg (by omega), Int.tmod_eq_emod_of_nonneg (by omega), Bool.eq_iff_iff]
  simp
  omega
theorem dleap_is {y : Int} {b : Bool} (h1 : 2000 ≤ y) (h2 : y ≤ 2199) (h : decide (lp y = 1) = b) (w : World) : Calls Try.prog 53 #[.int .i64 y] w (RetW (.bool b) w) := by
  rw [← h, ← leapT_in h1 h2]; exact dleap_any y w
theorem rleap_is {y : Int} {b : Bool} (h1 : 2000 ≤ y) (h2 : y ≤ 2199) (h : decide (lp y = 1) = b) (w : World) : Calls Try.prog 54 #[.int .i64 y] w (RetW (.bool b) w) := by
  rw [← h, ← leapT_in h1 h2]; exact rleap_any y w
theorem lp01 (y : Int) : lp y = 1 ∨ lp y = 0 := by have := lp_bd y; omega

theorem days_any {y : Int} (h1 : 2000 ≤ y) (h2 : y ≤ 2199) (w : World) : Calls Try.prog 95 #[.int .i64 y] w (RetW (.int .i64 (daysY y)) w) := by
  unfold daysY
  rcases lp01 y with h | h
  · go_enter Try.func95, Try.ntmps95
    go_wp2_with fail
    refine (rleap_is (b := true) h1 h2 (by simp [h]) _).mono ?_
    rintro e w1 ⟨rfl, rfl⟩
    go_wp2
    go_ret
    exact ⟨ret_int (by omega), rfl⟩
  · go_enter Try.func95, Try.ntmps95
    go_wp2_with fail
    refine (rleap_is (b := false) h1 h2 (by simp [h]) _).mono ?_
    rintro e w1 ⟨rfl, rfl⟩
    go_wp2
    go_ret
    exact ⟨ret_int (by omega), rfl⟩
theorem mlength_any {y m : Int} (h1 : 2000 ≤ y) (h2 : y ≤ 2199) (w : World) : Calls Try.prog 96 #[.int .i64 y, .int .i64 m] w (RetW (.int .i64 (lenM y m)) w) := by
  have hl := lp_bd y
  unfold lenM
  by_cases m2 : m = 2
  · subst m2
    go_enter Try.func96, Try.ntmps96
    go_wp2_with fail
    refine (days_any h1 h2 _).mono ?_
    rintro e w1 ⟨rfl, rfl⟩
    unfold daysY
    go_wp2
    go_ret
    exact ⟨ret_int (by omega), rfl⟩
  · rw [if_neg m2]
    by_cases m4 : m = 4
    · subst m4
      go_enter Try.func96, Try.ntmps96
      go_wp2
      go_ret
      exact ⟨rfl, rfl⟩
    by_cases m6 : m = 6
    · subst m6
      go_enter Try.func96, Try.ntmps96
      go_wp2
      go_ret
      exact ⟨rfl, rfl⟩
    by_cases m9 : m = 9
    · subst m9
      go_enter Try.func96, Try.ntmps96
      go_wp2
      go_ret
      exact ⟨rfl, rfl⟩
    by_cases m11 : m = 11
    · subst m11
      go_enter Try.func96, Try.ntmps96
      go_wp2
      go_ret
      exact ⟨rfl, rfl⟩
    rw [if_neg (by omega)]
    go_enter Try.func96, Try.ntmps96
    go_wp2
    go_ret
    exact ⟨rfl, rfl⟩
theorem ystart_any {y : Int} (h1 : 2000 ≤ y) (h2 : y ≤ 2200) (w : World) : Calls Try.prog 93 #[.int .i64 y] w (RetW (.int .i64 (ysI y)) w) := by
  unfold ysI
  by_cases hy : y > 2100
  · rw [if_pos hy]
    go_enter Try.func93, Try.ntmps93
    go_wp2
    go_ret
    exact ⟨ret_int (by omega), rfl⟩
  · rw [if_neg hy]
    go_enter Try.func93, Try.ntmps93
    go_wp2
    go_ret
    exact ⟨ret_int (by omega), rfl⟩
theorem valid_any (n : Int) (w : World) : Calls Try.prog 92 #[.int .i64 n] w (RetW (.bool (decide (0 ≤ n ∧ n ≤ 73048))) w) := by
  go_enter Try.func92, Try.ntmps92
  go_wp2
  all_goals go_ret
  all_goals (refine ⟨ret_bool ?_, rfl⟩; rw [Bool.eq_iff_iff]; simp; try omega)
theorem valid_is {n : Int} {b : Bool} (h : decide (0 ≤ n ∧ n ≤ 73048) = b) (w : World) : Calls Try.prog 92 #[.int .i64 n] w (RetW (.bool b) w) := by rw [← h]; exact valid_any n w
theorem dout_any (n : Int) (w : World) : Calls Try.prog 84 #[.int .i64 n] w (RetW (.bool (!decide (0 ≤ n ∧ n ≤ 73048))) w) := by
  go_enter Try.func84, Try.ntmps84
  go_wp2
  all_goals go_ret
  all_goals (refine ⟨ret_bool ?_, rfl⟩; rw [Bool.eq_iff_iff]; simp; try omega)
theorem dout_is {n : Int} {b : Bool} (h : decide (0 ≤ n ∧ n ≤ 73048) = b) (w : World) : Calls Try.prog 84 #[.int .i64 n] w (RetW (.bool (!b)) w) := by rw [← h]; exact dout_any n w

set_option maxHeartbeats 4000000 in
theorem dahead_any {y m : Int} (h1 : 2000 ≤ y) (h2 : y ≤ 2199) (h3 : 1 ≤ m) (h4 : m ≤ 12) (w : World) : Calls Try.prog 94 #[.int .i64 y, .int .i64 m] w (RetW (.int .i64 (aheadM y m)) w) := by
  rcases lp01 y with h | h
  · have hh := m12 h3 h4
    clear h3 h4
    rcases hh with rfl | rfl | rfl | rfl | rfl | rfl | rfl | rfl | rfl | rfl | rfl | rfl <;> simp only [aheadM, h]
    all_goals
      go_enter Try.func94, Try.ntmps94
      go_wp2_with fail
      try (refine (dleap_is (b := true) h1 h2 (by simp [h]) _).mono ?_; rintro e w1 ⟨rfl, rfl⟩; go_wp2)
      go_ret
      exact ⟨rfl, rfl⟩
  · have hh := m12 h3 h4
    clear h3 h4
    rcases hh with rfl | rfl | rfl | rfl | rfl | rfl | rfl | rfl | rfl | rfl | rfl | rfl <;> simp only [aheadM, h]
    all_goals
      go_enter Try.func94, Try.ntmps94
      go_wp2_with fail
      try (refine (dleap_is (b := false) h1 h2 (by simp [h]) _).mono ?_; rintro e w1 ⟨rfl, rfl⟩; go_wp2)
      go_ret
      exact ⟨rfl, rfl⟩
end Go.Proofs.Ytmjegmlchonlmaa
