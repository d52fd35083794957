/-
  The walks of dates: weekdays, ends of months, months added.
-/
import Derived.Test.YtmjegmlchonlmaaDateWalkE
namespace Go.Proofs.Ytmjegmlchonlmaa
open Go.RowKit
set_option maxHeartbeats 2000000

theorem dweek_in {n : Int} (h1 : 0 ≤ n) (h2 : n ≤ 73048) (w : World) : Calls Try.prog 49 #[.int .i64 n] w (RetW (.tuple #[.int .i64 ((n + 5) % 7), .int .i64 0]) w) := by
  go_enter Try.func49, Try.ntmps49
  go_wp2_with fail
  refine (valid_is (b := true) (by simp; omega) _).mono ?_
  rintro e w1 ⟨rfl, rfl⟩
  go_wp2_with fail
  go_ret2
  exact ⟨rfl, rfl⟩
theorem dweek_out {n : Int} (h : ¬(0 ≤ n ∧ n ≤ 73048)) (w : World) : Calls Try.prog 49 #[.int .i64 n] w (RetW (.tuple #[.int .i64 0, .int .i64 50]) w) := by
  go_enter Try.func49, Try.ntmps49
  go_wp2_with fail
  refine (valid_is (b := false) (by simp; omega) _).mono ?_
  rintro e w1 ⟨rfl, rfl⟩
  go_wp2_with fail
  go_ret2
  exact ⟨rfl, rfl⟩
theorem rweek_in {n : Int} (h1 : 0 ≤ n) (h2 : n ≤ 73048) (w : World) : Calls Try.prog 56 #[.int .i64 n] w (RetW (.tuple #[.int .i64 ((n + 5) % 7), .int .i64 0]) w) := by
  go_enter Try.func56, Try.ntmps56
  go_wp2_with fail
  refine (dout_is (b := true) (by simp; omega) _).mono ?_
  rintro e w1 ⟨rfl, rfl⟩
  go_wp2_with fail
  go_ret2
  exact ⟨rfl, rfl⟩
theorem rweek_out {n : Int} (h : ¬(0 ≤ n ∧ n ≤ 73048)) (w : World) : Calls Try.prog 56 #[.int .i64 n] w (RetW (.tuple #[.int .i64 0, .int .i64 50]) w) := by
  go_enter Try.func56, Try.ntmps56
  go_wp2_with fail
  refine (dout_is (b := false) (by simp; omega) _).mono ?_
  rintro e w1 ⟨rfl, rfl⟩
  go_wp2_with fail
  go_ret2
  exact ⟨rfl, rfl⟩

theorem CV.last {n y m d : Int} (h : CV n y m d) : CV (n + lenM y m - d) y m (lenM y m) :=
  ⟨h.y1, h.y2, h.m1, h.m2, by have := len_bd y m; omega, by omega, by have := h.eq; omega⟩
theorem dend_in {n y m d : Int} (h : CV n y m d) (w : World) : Calls Try.prog 57 #[.int .i64 n] w (RetW (.tuple #[.int .i64 (n + lenM y m - d), .int .i64 0]) w) := by
  obtain ⟨hn1, hn2⟩ := h.bd
  have hb := len_bd y m
  have hd1 := h.d1
  have hd2 := h.d2
  have H := Lib.hid h
  clear h
  go_enter Try.func57, Try.ntmps57
  go_wp2_with fail
  refine (dcivil_in H.out _).mono ?_
  rintro e w1 ⟨rfl, rfl⟩
  go_wp2_with fail
  refine (dlength_in H.out.y1 H.out.y2 H.out.m1 H.out.m2 _).mono ?_
  rintro e w1 ⟨rfl, rfl⟩
  go_wp2_with fail
  go_ret2
  exact ⟨rfl, rfl⟩
theorem dend_out {n : Int} (h : ¬(0 ≤ n ∧ n ≤ 73048)) (w : World) : Calls Try.prog 57 #[.int .i64 n] w (RetW (.tuple #[.int .i64 0, .int .i64 50]) w) := by
  go_enter Try.func57, Try.ntmps57
  go_wp2_with fail
  refine (dcivil_out h _).mono ?_
  rintro e w1 ⟨rfl, rfl⟩
  go_wp2_with fail
  go_ret2
  exact ⟨rfl, rfl⟩
theorem rend_in {n y m d : Int} (h : CV n y m d) (w : World) : Calls Try.prog 58 #[.int .i64 n] w (RetW (.tuple #[.int .i64 (n + lenM y m - d), .int .i64 0]) w) := by
  have H := Lib.hid h
  clear h
  go_enter Try.func58, Try.ntmps58
  go_wp2_with fail
  refine (rcivil_in H.out _).mono ?_
  rintro e w1 ⟨rfl, rfl⟩
  go_wp2_with fail
  refine (mlength_any H.out.y1 H.out.y2 _).mono ?_
  rintro e w1 ⟨rfl, rfl⟩
  go_wp2_with fail
  refine (rfrom_in H.out.last _).mono ?_
  rintro e w1 ⟨rfl, rfl⟩
  go_wp2_with fail
  go_ret2
  exact ⟨rfl, rfl⟩
theorem rend_out {n : Int} (h : ¬(0 ≤ n ∧ n ≤ 73048)) (w : World) : Calls Try.prog 58 #[.int .i64 n] w (RetW (.tuple #[.int .i64 0, .int .i64 50]) w) := by
  go_enter Try.func58, Try.ntmps58
  go_wp2_with fail
  refine (rcivil_out h _).mono ?_
  rintro e w1 ⟨rfl, rfl⟩
  go_wp2_with fail
  go_ret2
  exact ⟨rfl, rfl⟩
end Go.Proofs.Ytmjegmlchonlmaa
