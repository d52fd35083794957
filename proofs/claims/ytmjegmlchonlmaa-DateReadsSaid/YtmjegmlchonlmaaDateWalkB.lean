/-
  The walks of dates: lengths of months, numbers of dates, dates of numbers.
-/
import Derived.Test.YtmjegmlchonlmaaDateWalkA
namespace Go.Proofs.Ytmjegmlchonlmaa
open Go.RowKit
set_option maxHeartbeats 1000000

theorem ret_t2 {k k' : IntKind} {a b c d : Int} (h : a = c) (h' : b = d) : Ending.returned (.tuple #[.int k a, .int k' b]) = .returned (.tuple #[.int k c, .int k' d]) := by rw [h, h']
/-- A month that there is. -/
def monthR (y m : Int) : Prop := 2000 ≤ y ∧ y ≤ 2199 ∧ 1 ≤ m ∧ m ≤ 12
theorem dlength_in {y m : Int} (h1 : 2000 ≤ y) (h2 : y ≤ 2199) (h3 : 1 ≤ m) (h4 : m ≤ 12) (w : World) :
    Calls Try.prog 48 #[.int .i64 y, .int .i64 m] w (RetW (.tuple #[.int .i64 (lenM y m), .int .i64 0]) w) := by
  by_cases h12 : m = 12
  · subst h12
    go_enter Try.func48, Try.ntmps48
    go_wp2_with fail
    go_ret2
    exact ⟨rfl, rfl⟩
  · have ha := ahead_succ y h3 (by omega)
    have hb := len_bd y m
    have hc := ahead_bd y h3 h4
    have hl := lp_bd y
    unfold daysY at hc
    go_enter Try.func48, Try.ntmps48
    go_wp2_with fail
    refine (dahead_any h1 h2 (by omega) (by omega) _).mono ?_
    rintro e w1 ⟨rfl, rfl⟩
    go_wp2_with fail
    refine (dahead_any h1 h2 h3 h4 _).mono ?_
    rintro e w1 ⟨rfl, rfl⟩
    go_wp2_with fail
    go_ret2
    exact ⟨ret_t2 (by omega) rfl, rfl⟩
theorem dlength_out {y m : Int} (h : ¬monthR y m) (w : World) :
    Calls Try.prog 48 #[.int .i64 y, .int .i64 m] w (RetW (.tuple #[.int .i64 0, .int .i64 51]) w) := by
  unfold monthR at h
  by_cases a1 : y < 2000
  · go_enter Try.func48, Try.ntmps48
    go_wp2_with fail
    go_ret2
    exact ⟨rfl, rfl⟩
  by_cases a2 : 2199 < y
  · go_enter Try.func48, Try.ntmps48
    go_wp2_with fail
    go_ret2
    exact ⟨rfl, rfl⟩
  by_cases a3 : m < 1
  · go_enter Try.func48, Try.ntmps48
    go_wp2_with fail
    go_ret2
    exact ⟨rfl, rfl⟩
  have a4 : 12 < m := by omega
  go_enter Try.func48, Try.ntmps48
  go_wp2_with fail
  go_ret2
  exact ⟨rfl, rfl⟩
theorem rlength_in {y m : Int} (h1 : 2000 ≤ y) (h2 : y ≤ 2199) (h3 : 1 ≤ m) (h4 : m ≤ 12) (w : World) :
    Calls Try.prog 55 #[.int .i64 y, .int .i64 m] w (RetW (.tuple #[.int .i64 (lenM y m), .int .i64 0]) w) := by
  go_enter Try.func55, Try.ntmps55
  go_wp2_with fail
  refine (mlength_any h1 h2 _).mono ?_
  rintro e w1 ⟨rfl, rfl⟩
  go_wp2_with fail
  go_ret2
  exact ⟨rfl, rfl⟩
theorem rlength_out {y m : Int} (h : ¬monthR y m) (w : World) :
    Calls Try.prog 55 #[.int .i64 y, .int .i64 m] w (RetW (.tuple #[.int .i64 0, .int .i64 51]) w) := by
  unfold monthR at h
  by_cases a1 : y < 2000
  · go_enter Try.func55, Try.ntmps55
    go_wp2_with fail
    go_ret2
    exact ⟨rfl, rfl⟩
  by_cases a2 : 2199 < y
  · go_enter Try.func55, Try.ntmps55
    go_wp2_with fail
    go_ret2
    exact ⟨rfl, rfl⟩
  by_cases a3 : m < 1
  · go_enter Try.func55, Try.ntmps55
    go_wp2_with fail
    go_ret2
    exact ⟨rfl, rfl⟩
  have a4 : 12 < m := by omega
  go_enter Try.func55, Try.ntmps55
  go_wp2_with fail
  go_ret2
  exact ⟨rfl, rfl⟩

/-- A date that there is. -/
def dateR (y m d : Int) : Prop := monthR y m ∧ 1 ≤ d ∧ d ≤ lenM y m
theorem CV.range {n y m d : Int} (h : CV n y m d) : dateR y m d := ⟨⟨h.y1, h.y2, h.m1, h.m2⟩, h.d1, h.d2⟩
theorem dateR.cv {y m d : Int} (h : dateR y m d) : ∃ n, CV n y m d := ⟨_, h.1.1, h.1.2.1, h.1.2.2.1, h.1.2.2.2, h.2.1, h.2.2, rfl⟩
theorem dfrom_in {n y m d : Int} (h : CV n y m d) (w : World) :
    Calls Try.prog 47 #[.int .i64 y, .int .i64 m, .int .i64 d] w (RetW (.tuple #[.int .i64 n, .int .i64 0]) w) := by
  obtain ⟨hn1, hn2⟩ := h.bd
  obtain ⟨hy1, hy2⟩ := h.year
  obtain ⟨h1, h2, h3, h4, h5, h6, h7⟩ := h
  have ha := ahead_bd y h3 h4
  have hb := len_bd y m
  have hy := ys_mono h1
  rw [show ysI 2000 = 0 by decide] at hy
  go_enter Try.func47, Try.ntmps47
  go_wp2_with fail
  refine (dlength_in h1 h2 h3 h4 _).mono ?_
  rintro e w1 ⟨rfl, rfl⟩
  go_wp2_with fail
  refine (ystart_any h1 (by omega) _).mono ?_
  rintro e w1 ⟨rfl, rfl⟩
  go_wp2_with fail
  refine (dahead_any h1 h2 h3 h4 _).mono ?_
  rintro e w1 ⟨rfl, rfl⟩
  go_wp2_with fail
  go_ret2
  exact ⟨ret_t2 (by omega) rfl, rfl⟩
theorem dfrom_out {y m d : Int} (h : ¬dateR y m d) (w : World) :
    Calls Try.prog 47 #[.int .i64 y, .int .i64 m, .int .i64 d] w (RetW (.tuple #[.int .i64 0, .int .i64 51]) w) := by
  unfold dateR at h
  by_cases hm : monthR y m
  · obtain ⟨h1, h2, h3, h4⟩ := hm
    by_cases hd : d < 1
    · go_enter Try.func47, Try.ntmps47
      go_wp2_with fail
      refine (dlength_in h1 h2 h3 h4 _).mono ?_
      rintro e w1 ⟨rfl, rfl⟩
      go_wp2_with fail
      go_ret2
      exact ⟨rfl, rfl⟩
    · have hd2 : lenM y m < d := by
        rcases Int.lt_or_le (lenM y m) d with hx | hx
        · exact hx
        · exact absurd ⟨⟨h1, h2, h3, h4⟩, by omega, hx⟩ h
      go_enter Try.func47, Try.ntmps47
      go_wp2_with fail
      refine (dlength_in h1 h2 h3 h4 _).mono ?_
      rintro e w1 ⟨rfl, rfl⟩
      go_wp2_with fail
      go_ret2
      exact ⟨rfl, rfl⟩
  · go_enter Try.func47, Try.ntmps47
    go_wp2_with fail
    refine (dlength_out hm _).mono ?_
    rintro e w1 ⟨rfl, rfl⟩
    go_wp2_with fail
    go_ret2
    exact ⟨rfl, rfl⟩
end Go.Proofs.Ytmjegmlchonlmaa
