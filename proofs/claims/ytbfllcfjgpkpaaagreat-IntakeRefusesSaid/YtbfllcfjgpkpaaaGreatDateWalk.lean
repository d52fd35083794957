/-
  The walks of dates: leap years, lengths, numbers.
  The walks of dates: lengths of months, numbers of dates, dates of numbers.
  The walks of dates: the document's loops, and dates of numbers.
  The walks of dates: dates of numbers.
  The walks of dates: the document's dates of numbers.
  The walks of dates: weekdays, ends of months, months added.
  The walks of dates: months added.
  Numbers of digits: the plain words, and the walks.
  The walks of dates: texts read as dates.
  The walks of dates: the text of a day.
  What all functions of dates return, in one relation each; the sanity check; the law on arbitrary arguments and on texts.
-/
import Derived.Test.YtbfllcfjgpkpaaaGreatPlain
import Derived.Test.YtbfllcfjgpkpaaaGreatRows
import Derived.Lib.Hide
import Derived.Test.YtbfllcfjgpkpaaaGreatBase
import Derived.Lib.SlBytesConst
import Derived.Lib.SlBytesRow
import Derived.Lib.SmallJoins
import Derived.RegionTactic
namespace Go.Proofs.YtbfllcfjgpkpaaaGreat
section
section
open Go.RowKit
set_option maxHeartbeats 1000000

/-- Leap years, whatever the year. -/
def leapT (y : Int) : Bool := decide (Int.tmod y 4 = 0) && (decide (Int.tmod y 100 ≠ 0) || decide (Int.tmod y 400 = 0))
theorem dleap_any (y : Int) (w : World) : Calls Tryz.prog 156 #[.int .i64 y] w (RetW (.bool (leapT y)) w) := by
  unfold leapT
  go_enter Tryz.func156, Tryz.ntmps156
  go_wp2
  all_goals go_ret
  all_goals (refine ⟨ret_bool ?_, rfl⟩; rw [Bool.eq_iff_iff]; simp [*])
theorem rleap_any (y : Int) (w : World) : Calls Tryz.prog 120 #[.int .i64 y] w (RetW (.bool (leapT y)) w) := by
  unfold leapT
  go_enter Tryz.func120, Tryz.ntmps120
  go_wp2
  all_goals go_ret
  all_goals (refine ⟨ret_bool ?_, rfl⟩; rw [Bool.eq_iff_iff]; simp [*])
theorem leapT_in {y : Int} (h1 : 2000 ≤ y) (h2 : y ≤ 2199) : leapT y = decide (lp y = 1) := by
  unfold leapT lp
  rw [Int.tmod_eq_emod_of_nonneg (by omega), Int.tmod_eq_emod_of_nonneg (by omega), Int.tmod_eq_emod_of_nonneg (by omega), Bool.eq_iff_iff]
  simp
  omega
theorem dleap_is {y : Int} {b : Bool} (h1 : 2000 ≤ y) (h2 : y ≤ 2199) (h : decide (lp y = 1) = b) (w : World) : Calls Tryz.prog 156 #[.int .i64 y] w (RetW (.bool b) w) := by
  rw [← h, ← leapT_in h1 h2]; exact dleap_any y w
theorem rleap_is {y : Int} {b : Bool} (h1 : 2000 ≤ y) (h2 : y ≤ 2199) (h : decide (lp y = 1) = b) (w : World) : Calls Tryz.prog 120 #[.int .i64 y] w (RetW (.bool b) w) := by
  rw [← h, ← leapT_in h1 h2]; exact rleap_any y w
theorem lp01 (y : Int) : lp y = 1 ∨ lp y = 0 := by have := lp_bd y; omega

theorem days_any {y : Int} (h1 : 2000 ≤ y) (h2 : y ≤ 2199) (w : World) : Calls Tryz.prog 109 #[.int .i64 y] w (RetW (.int .i64 (daysY y)) w) := by
  unfold daysY
  rcases lp01 y with h | h
  · go_enter Tryz.func109, Tryz.ntmps109
    go_wp2_with fail
    refine (rleap_is (b := true) h1 h2 (by simp [h]) _).mono ?_
    rintro e w1 ⟨rfl, rfl⟩
    go_wp2
    go_ret
    exact ⟨ret_int (by omega), rfl⟩
  · go_enter Tryz.func109, Tryz.ntmps109
    go_wp2_with fail
    refine (rleap_is (b := false) h1 h2 (by simp [h]) _).mono ?_
    rintro e w1 ⟨rfl, rfl⟩
    go_wp2
    go_ret
    exact ⟨ret_int (by omega), rfl⟩
theorem mlength_any {y m : Int} (h1 : 2000 ≤ y) (h2 : y ≤ 2199) (w : World) : Calls Tryz.prog 110 #[.int .i64 y, .int .i64 m] w (RetW (.int .i64 (lenM y m)) w) := by
  have hl := lp_bd y
  unfold lenM
  by_cases m2 : m = 2
  · subst m2
    go_enter Tryz.func110, Tryz.ntmps110
    go_wp2_with fail
    refine (days_any h1 h2 _).mono ?_
    rintro e w1 ⟨rfl, rfl⟩
    unfold daysY
    go_wp2
    go_ret
    exact ⟨ret_int (by omega), rfl⟩
  · rw [if_neg m2]
    by_cases m4 : m = 4
    · subst m4
      go_enter Tryz.func110, Tryz.ntmps110
      go_wp2
      go_ret
      exact ⟨rfl, rfl⟩
    by_cases m6 : m = 6
    · subst m6
      go_enter Tryz.func110, Tryz.ntmps110
      go_wp2
      go_ret
      exact ⟨rfl, rfl⟩
    by_cases m9 : m = 9
    · subst m9
      go_enter Tryz.func110, Tryz.ntmps110
      go_wp2
      go_ret
      exact ⟨rfl, rfl⟩
    by_cases m11 : m = 11
    · subst m11
      go_enter Tryz.func110, Tryz.ntmps110
      go_wp2
      go_ret
      exact ⟨rfl, rfl⟩
    rw [if_neg (by omega)]
    go_enter Tryz.func110, Tryz.ntmps110
    go_wp2
    go_ret
    exact ⟨rfl, rfl⟩
theorem ystart_any {y : Int} (h1 : 2000 ≤ y) (h2 : y ≤ 2200) (w : World) : Calls Tryz.prog 153 #[.int .i64 y] w (RetW (.int .i64 (ysI y)) w) := by
  unfold ysI
  by_cases hy : y > 2100
  · rw [if_pos hy]
    go_enter Tryz.func153, Tryz.ntmps153
    go_wp2
    go_ret
    exact ⟨ret_int (by omega), rfl⟩
  · rw [if_neg hy]
    go_enter Tryz.func153, Tryz.ntmps153
    go_wp2
    go_ret
    exact ⟨ret_int (by omega), rfl⟩
theorem valid_any (n : Int) (w : World) : Calls Tryz.prog 148 #[.int .i64 n] w (RetW (.bool (decide (0 ≤ n ∧ n ≤ 73048))) w) := by
  go_enter Tryz.func148, Tryz.ntmps148
  go_wp2
  all_goals go_ret
  all_goals (refine ⟨ret_bool ?_, rfl⟩; rw [Bool.eq_iff_iff]; simp; try omega)
theorem valid_is {n : Int} {b : Bool} (h : decide (0 ≤ n ∧ n ≤ 73048) = b) (w : World) : Calls Tryz.prog 148 #[.int .i64 n] w (RetW (.bool b) w) := by rw [← h]; exact valid_any n w
theorem dout_any (n : Int) (w : World) : Calls Tryz.prog 89 #[.int .i64 n] w (RetW (.bool (!decide (0 ≤ n ∧ n ≤ 73048))) w) := by
  go_enter Tryz.func89, Tryz.ntmps89
  go_wp2
  all_goals go_ret
  all_goals (refine ⟨ret_bool ?_, rfl⟩; rw [Bool.eq_iff_iff]; simp; try omega)
theorem dout_is {n : Int} {b : Bool} (h : decide (0 ≤ n ∧ n ≤ 73048) = b) (w : World) : Calls Tryz.prog 89 #[.int .i64 n] w (RetW (.bool (!b)) w) := by rw [← h]; exact dout_any n w

set_option maxHeartbeats 4000000 in
theorem dahead_any {y m : Int} (h1 : 2000 ≤ y) (h2 : y ≤ 2199) (h3 : 1 ≤ m) (h4 : m ≤ 12) (w : World) : Calls Tryz.prog 154 #[.int .i64 y, .int .i64 m] w (RetW (.int .i64 (aheadM y m)) w) := by
  rcases lp01 y with h | h
  · have hh := m12 h3 h4
    clear h3 h4
    rcases hh with rfl | rfl | rfl | rfl | rfl | rfl | rfl | rfl | rfl | rfl | rfl | rfl <;> simp only [aheadM, h]
    all_goals
      go_enter Tryz.func154, Tryz.ntmps154
      go_wp2_with fail
      try (refine (dleap_is (b := true) h1 h2 (by simp [h]) _).mono ?_; rintro e w1 ⟨rfl, rfl⟩; go_wp2)
      go_ret
      exact ⟨rfl, rfl⟩
  · have hh := m12 h3 h4
    clear h3 h4
    rcases hh with rfl | rfl | rfl | rfl | rfl | rfl | rfl | rfl | rfl | rfl | rfl | rfl <;> simp only [aheadM, h]
    all_goals
      go_enter Tryz.func154, Tryz.ntmps154
      go_wp2_with fail
      try (refine (dleap_is (b := false) h1 h2 (by simp [h]) _).mono ?_; rintro e w1 ⟨rfl, rfl⟩; go_wp2)
      go_ret
      exact ⟨rfl, rfl⟩
end
section
open Go.RowKit
set_option maxHeartbeats 1000000

theorem ret_t2 {k k' : IntKind} {a b c d : Int} (h : a = c) (h' : b = d) : Ending.returned (.tuple #[.int k a, .int k' b]) = .returned (.tuple #[.int k c, .int k' d]) := by rw [h, h']
/-- A month that there is. -/
def monthR (y m : Int) : Prop := 2000 ≤ y ∧ y ≤ 2199 ∧ 1 ≤ m ∧ m ≤ 12
theorem dlength_in {y m : Int} (h1 : 2000 ≤ y) (h2 : y ≤ 2199) (h3 : 1 ≤ m) (h4 : m ≤ 12) (w : World) :
    Calls Tryz.prog 155 #[.int .i64 y, .int .i64 m] w (RetW (.tuple #[.int .i64 (lenM y m), .int .i64 0]) w) := by
  by_cases h12 : m = 12
  · subst h12
    go_enter Tryz.func155, Tryz.ntmps155
    go_wp2_with fail
    go_ret2
    exact ⟨rfl, rfl⟩
  · have ha := ahead_succ y h3 (by omega)
    have hb := len_bd y m
    have hc := ahead_bd y h3 h4
    have hl := lp_bd y
    unfold daysY at hc
    go_enter Tryz.func155, Tryz.ntmps155
    go_wp2_with fail
    refine (dahead_any h1 h2 (by omega) (by omega) _).mono ?_
    rintro e w1 ⟨rfl, rfl⟩
    go_wp2_with fail
    refine (dahead_any h1 h2 h3 h4 _).mono ?_
    rintro e w1 ⟨rfl, rfl⟩
    go_wp2_with fail
    go_ret2
    exact ⟨ret_t2 (by omega) rfl, rfl⟩
theorem dlength_out {y m : Int} (h : ¬monthR y m) (w : World) :
    Calls Tryz.prog 155 #[.int .i64 y, .int .i64 m] w (RetW (.tuple #[.int .i64 0, .int .i64 51]) w) := by
  unfold monthR at h
  by_cases a1 : y < 2000
  · go_enter Tryz.func155, Tryz.ntmps155
    go_wp2_with fail
    go_ret2
    exact ⟨rfl, rfl⟩
  by_cases a2 : 2199 < y
  · go_enter Tryz.func155, Tryz.ntmps155
    go_wp2_with fail
    go_ret2
    exact ⟨rfl, rfl⟩
  by_cases a3 : m < 1
  · go_enter Tryz.func155, Tryz.ntmps155
    go_wp2_with fail
    go_ret2
    exact ⟨rfl, rfl⟩
  have a4 : 12 < m := by omega
  go_enter Tryz.func155, Tryz.ntmps155
  go_wp2_with fail
  go_ret2
  exact ⟨rfl, rfl⟩
theorem rlength_in {y m : Int} (h1 : 2000 ≤ y) (h2 : y ≤ 2199) (h3 : 1 ≤ m) (h4 : m ≤ 12) (w : World) :
    Calls Tryz.prog 111 #[.int .i64 y, .int .i64 m] w (RetW (.tuple #[.int .i64 (lenM y m), .int .i64 0]) w) := by
  go_enter Tryz.func111, Tryz.ntmps111
  go_wp2_with fail
  refine (mlength_any h1 h2 _).mono ?_
  rintro e w1 ⟨rfl, rfl⟩
  go_wp2_with fail
  go_ret2
  exact ⟨rfl, rfl⟩
theorem rlength_out {y m : Int} (h : ¬monthR y m) (w : World) :
    Calls Tryz.prog 111 #[.int .i64 y, .int .i64 m] w (RetW (.tuple #[.int .i64 0, .int .i64 51]) w) := by
  unfold monthR at h
  by_cases a1 : y < 2000
  · go_enter Tryz.func111, Tryz.ntmps111
    go_wp2_with fail
    go_ret2
    exact ⟨rfl, rfl⟩
  by_cases a2 : 2199 < y
  · go_enter Tryz.func111, Tryz.ntmps111
    go_wp2_with fail
    go_ret2
    exact ⟨rfl, rfl⟩
  by_cases a3 : m < 1
  · go_enter Tryz.func111, Tryz.ntmps111
    go_wp2_with fail
    go_ret2
    exact ⟨rfl, rfl⟩
  have a4 : 12 < m := by omega
  go_enter Tryz.func111, Tryz.ntmps111
  go_wp2_with fail
  go_ret2
  exact ⟨rfl, rfl⟩

/-- A date that there is. -/
def dateR (y m d : Int) : Prop := monthR y m ∧ 1 ≤ d ∧ d ≤ lenM y m
theorem CV.range {n y m d : Int} (h : CV n y m d) : dateR y m d := ⟨⟨h.y1, h.y2, h.m1, h.m2⟩, h.d1, h.d2⟩
theorem dateR.cv {y m d : Int} (h : dateR y m d) : ∃ n, CV n y m d := ⟨_, h.1.1, h.1.2.1, h.1.2.2.1, h.1.2.2.2, h.2.1, h.2.2, rfl⟩
end
section
open Go.RowKit
set_option maxHeartbeats 1000000

theorem rfrom_in {n y m d : Int} (h : CV n y m d) (w : World) :
    Calls Tryz.prog 92 #[.int .i64 y, .int .i64 m, .int .i64 d] w (RetW (.tuple #[.int .i64 n, .int .i64 0]) w) := by
  obtain ⟨hn1, hn2⟩ := h.bd
  obtain ⟨h1, h2, h3, h4, h5, h6, h7⟩ := h
  have H7 := Lib.hid h7
  have hb := len_bd y m
  clear h7
  go_enter Tryz.func92, Tryz.ntmps92
  go_wp2_with fail
  refine (rlength_in h1 h2 h3 h4 _).mono ?_
  rintro e w1 ⟨rfl, rfl⟩
  go_wp2_with fail
  go_loopw [10, 11] (fun a b wr => ∃ v : Int, 2000 ≤ v ∧ v ≤ y ∧ b = .int .i64 v ∧ a = .int .i64 (d - 1 + ysI v) ∧ wr = w) (fun _ b _ => (y - intOf b).toNat)
  case atStart => exact ⟨2000, by omega, by omega, rfl, vint (by rw [show ysI 2000 = 0 by decide]; omega), rfl⟩
  case round =>
    obtain ⟨v, hv1, hv2, rfl, rfl, hw⟩ := hrel
    have hs := ys_succ v hv1
    have hy0 := ys_mono hv1
    have hy1 := ys_mono (show v ≤ 2200 by omega)
    rw [show ysI 2000 = 0 by decide] at hy0
    rw [show ysI 2200 = 73049 by decide] at hy1
    by_cases hlt : v < y
    · have hl := lp_bd v
      unfold daysY at hs
      go_wp2_with fail
      refine (days_any hv1 (by omega) _).mono ?_
      rintro e w2 ⟨rfl, rfl⟩
      unfold daysY
      go_wp2_with fail
      go_roundw
      case rel => exact ⟨v + 1, by omega, by omega, rfl, vint (by omega), trivial⟩
      case measure => simp [intOf]; omega
    · have hvy : v = y := by omega
      subst hvy
      clear hs
      go_wp2_with fail
      go_loopw [10, 12] (fun a b wr => ∃ k : Int, 1 ≤ k ∧ k ≤ m ∧ b = .int .i64 k ∧ a = .int .i64 (d - 1 + ysI v + aheadM v k) ∧ wr = w) (fun _ b _ => (m - intOf b).toNat)
      case atStart => exact ⟨1, by omega, by omega, rfl, vint (by rw [show aheadM v 1 = 0 by simp [aheadM]]; omega), rfl⟩
      case round =>
        obtain ⟨k, hk1, hk2, rfl, rfl, hw2⟩ := hrel
        have ha := ahead_bd v hk1 (by omega)
        have hl := lp_bd v
        unfold daysY at ha
        have hb2 := len_bd v k
        by_cases hlt : k < m
        · have hsu := ahead_succ v hk1 (by omega)
          go_wp2_with fail
          refine (mlength_any h1 h2 _).mono ?_
          rintro e w2 ⟨rfl, rfl⟩
          go_wp2_with fail
          go_roundw
          case rel => exact ⟨k + 1, by omega, by omega, rfl, vint (by omega), trivial⟩
          case measure => simp [intOf]; omega
        · have hkm : k = m := by omega
          subst hkm
          go_wp2_with fail
          go_ret2
          exact ⟨ret_t2 (by rw [H7.out]; omega) rfl, by first | rfl | assumption | (simp [*])⟩
end
section
open Go.RowKit
set_option maxHeartbeats 2000000

theorem rfrom_out {y m d : Int} (h : ¬dateR y m d) (w : World) :
    Calls Tryz.prog 92 #[.int .i64 y, .int .i64 m, .int .i64 d] w (RetW (.tuple #[.int .i64 0, .int .i64 51]) w) := by
  unfold dateR at h
  by_cases hm : monthR y m
  · obtain ⟨h1, h2, h3, h4⟩ := hm
    by_cases hd : d < 1
    · go_enter Tryz.func92, Tryz.ntmps92
      go_wp2_with fail
      refine (rlength_in h1 h2 h3 h4 _).mono ?_
      rintro e w1 ⟨rfl, rfl⟩
      go_wp2_with fail
      go_ret2
      exact ⟨rfl, rfl⟩
    · have hd2 : lenM y m < d := by
        rcases Int.lt_or_le (lenM y m) d with hx | hx
        · exact hx
        · exact absurd ⟨⟨h1, h2, h3, h4⟩, by omega, hx⟩ h
      go_enter Tryz.func92, Tryz.ntmps92
      go_wp2_with fail
      refine (rlength_in h1 h2 h3 h4 _).mono ?_
      rintro e w1 ⟨rfl, rfl⟩
      go_wp2_with fail
      go_ret2
      exact ⟨rfl, rfl⟩
  · go_enter Tryz.func92, Tryz.ntmps92
    go_wp2_with fail
    refine (rlength_out hm _).mono ?_
    rintro e w1 ⟨rfl, rfl⟩
    go_wp2_with fail
    go_ret2
    exact ⟨rfl, rfl⟩
theorem results_tmp4 {fn : Func} {t u v x : Tmp} (h : fn.results = #[.tmp t, .tmp u, .tmp v, .tmp x]) (tmps : Array Value) (P : Program) (w : World) :
    (results fn tmps).run P w = .ok (.tuple #[tmps.getD t undef, tmps.getD u undef, tmps.getD v undef, tmps.getD x undef]) w := by
  simp [results, h]
theorem ret_t4 {k k' k2 k3 : IntKind} {a b c d a' b' c' d' : Int} (h : a = a') (h' : b = b') (h2 : c = c') (h3 : d = d') : Ending.returned (.tuple #[.int k a, .int k' b, .int k2 c, .int k3 d]) = .returned (.tuple #[.int k a', .int k' b', .int k2 c', .int k3 d']) := by rw [h, h', h2, h3]
theorem ys_up (y : Int) (h : 2000 ≤ y) : ysI y ≤ 366 * (y - 2000) := by
  unfold ysI
  split <;> omega
theorem dcivil_in {n y m d : Int} (h : CV n y m d) (w : World) :
    Calls Tryz.prog 151 #[.int .i64 n] w (RetW (.tuple #[.int .i64 y, .int .i64 m, .int .i64 d, .int .i64 0]) w) := by
  obtain ⟨hn1, hn2⟩ := h.bd
  obtain ⟨hy1, hy2⟩ := h.year
  obtain ⟨h1, h2, h3, h4, h5, h6, h7⟩ := h
  have hup := ys_up (y + 1) (by omega)
  have hg0 := month_guess y (n - ysI y) m h3 h4 (by omega) (by omega)
  have ha := ahead_bd y h3 h4
  have hl := lp_bd y
  unfold daysY at ha
  have hy0 := ys_mono h1
  rw [show ysI 2000 = 0 by decide] at hy0
  have H7 := Lib.hid h7
  have HG := Lib.hid hg0
  clear h7 hg0
  go_enter Tryz.func151, Tryz.ntmps151
  go_wp2_with fail
  refine (valid_is (b := true) (by simp; omega) _).mono ?_
  rintro e w1 ⟨rfl, rfl⟩
  go_wp2_with fail
  go_loopw [2] (fun a wr => ∃ v : Int, 2000 ≤ v ∧ v ≤ y ∧ a = .int .i64 v ∧ wr = w) (fun a _ => (y - intOf a).toNat)
  case atStart => exact ⟨2000 + n / 366, by omega, by omega, rfl, rfl⟩
  case round =>
    obtain ⟨v, hv1, hv2, rfl, hw⟩ := hrel
    by_cases hlt : v < y
    · have hle : ysI (v + 1) ≤ n := by have := ys_mono (show v + 1 ≤ y by omega); omega
      go_wp2_with fail
      refine (ystart_any (by omega) (by omega) _).mono ?_
      rintro e w2 ⟨rfl, rfl⟩
      go_wp2_with fail
      go_roundw
      case rel => exact ⟨v + 1, by omega, by omega, rfl, trivial⟩
      case measure => simp [intOf]; omega
    · have hvy : v = y := by omega
      subst hvy
      go_wp2_with fail
      refine (ystart_any (by omega) (by omega) _).mono ?_
      rintro e w2 ⟨rfl, rfl⟩
      go_wp2_with fail
      refine (ystart_any (by omega) (by omega) _).mono ?_
      rintro e w2 ⟨rfl, rfl⟩
      have hq0 : 0 ≤ n - ysI v := by omega
      have hq1 : n - ysI v ≤ 366 := by have := H7.out; omega
      rcases HG.out with ⟨hg, hm12 | hlt2⟩ | ⟨hg, hm2⟩
      · subst hm12
        go_wp2_with fail
        refine (dahead_any h1 h2 (by omega) (by omega) _).mono ?_
        rintro e w2 ⟨rfl, rfl⟩
        go_wp2_with fail
        (try simp only [Exit.inBlock, Exit.then])
        refine bodyPost_ret (results_tmp4 rfl _ _ _) rfl ?_
        exact ⟨ret_t4 rfl (by omega) (by have := H7.out; omega) rfl, by first | rfl | assumption | (simp [*])⟩
      · have hm12 : m < 12 ∨ m = 12 := by omega
        rcases hm12 with hm12 | rfl
        · go_wp2_with fail
          refine (dahead_any h1 h2 (by omega) (by omega) _).mono ?_
          rintro e w2 ⟨rfl, rfl⟩
          go_wp2_with fail
          refine (dahead_any h1 h2 (by omega) (by omega) _).mono ?_
          rintro e w2 ⟨rfl, rfl⟩
          go_wp2_with fail
          (try simp only [Exit.inBlock, Exit.then])
          refine bodyPost_ret (results_tmp4 rfl _ _ _) rfl ?_
          exact ⟨ret_t4 rfl (by omega) (by have := H7.out; omega) rfl, by first | rfl | assumption | (simp [*])⟩
        · go_wp2_with fail
          refine (dahead_any h1 h2 (by omega) (by omega) _).mono ?_
          rintro e w2 ⟨rfl, rfl⟩
          go_wp2_with fail
          (try simp only [Exit.inBlock, Exit.then])
          refine bodyPost_ret (results_tmp4 rfl _ _ _) rfl ?_
          exact ⟨ret_t4 rfl (by omega) (by have := H7.out; omega) rfl, by first | rfl | assumption | (simp [*])⟩
      · have hle : aheadM v m ≤ n - ysI v := by have := H7.out; omega
        have hg2 : m - 1 + 1 = m := by omega
        go_wp2_with fail
        refine (dahead_any h1 h2 (by omega) (by omega) _).mono ?_
        rintro e w2 ⟨rfl, rfl⟩
        go_wp2_with fail
        refine (dahead_any h1 h2 (by omega) (by omega) _).mono ?_
        rintro e w2 ⟨rfl, rfl⟩
        go_wp2_with fail
        (try simp only [Exit.inBlock, Exit.then])
        refine bodyPost_ret (results_tmp4 rfl _ _ _) rfl ?_
        exact ⟨ret_t4 rfl (by omega) (by have := H7.out; omega) rfl, by first | rfl | assumption | (simp [*])⟩
end
section
open Go.RowKit
set_option maxHeartbeats 2000000

theorem rcivil_in {n y m d : Int} (h : CV n y m d) (w : World) :
    Calls Tryz.prog 91 #[.int .i64 n] w (RetW (.tuple #[.int .i64 y, .int .i64 m, .int .i64 d, .int .i64 0]) w) := by
  obtain ⟨hn1, hn2⟩ := h.bd
  obtain ⟨hy1, hy2⟩ := h.year
  obtain ⟨h1, h2, h3, h4, h5, h6, h7⟩ := h
  have hs := ys_succ y h1
  have H7 := Lib.hid h7
  have HS := Lib.hid hs
  clear h7 hs
  go_enter Tryz.func91, Tryz.ntmps91
  go_wp2_with fail
  refine (dout_is (b := true) (by simp; omega) _).mono ?_
  rintro e w1 ⟨rfl, rfl⟩
  go_wp2_with fail
  go_loopw [0, 2] (fun q a wr => ∃ v : Int, 2000 ≤ v ∧ v ≤ y ∧ q = .int .i64 (n - ysI v) ∧ a = .int .i64 v ∧ wr = w) (fun _ a _ => (y - intOf a).toNat)
  case atStart => exact ⟨2000, by omega, by omega, vint (by rw [show ysI 2000 = 0 by decide]; omega), rfl, rfl⟩
  case round =>
    obtain ⟨v, hv1, hv2, rfl, rfl, hw⟩ := hrel
    have hl := lp_bd v
    have hyv := ys_mono hv1
    rw [show ysI 2000 = 0 by decide] at hyv
    have hyw := ys_mono (show v ≤ 2200 by omega)
    rw [show ysI 2200 = 73049 by decide] at hyw
    by_cases hlt : v < y
    · have hle : ysI (v + 1) ≤ n := by have := ys_mono (show v + 1 ≤ y by omega); omega
      have hsv := ys_succ v hv1
      unfold daysY at hsv
      have hd : 365 + lp v ≤ n - ysI v := by omega
      have hn : n - ysI v - (365 + lp v) = n - ysI (v + 1) := by omega
      have HN := Lib.hid hn
      clear hsv hn
      go_wp2_with fail
      refine (days_any (by omega) (by omega) _).mono ?_
      rintro e w2 ⟨rfl, rfl⟩
      unfold daysY
      go_wp2_with fail
      refine (days_any (by omega) (by omega) _).mono ?_
      rintro e w2 ⟨rfl, rfl⟩
      unfold daysY
      go_wp2_with fail
      go_roundw
      case rel => exact ⟨v + 1, by omega, by omega, vint HN.out, rfl, trivial⟩
      case measure => simp [intOf]; omega
    · have hvy : v = y := by omega
      subst hvy
      have hd : n - ysI v < 365 + lp v := by have := HS.out; unfold daysY at this; omega
      go_wp2_with fail
      refine (days_any (by omega) (by omega) _).mono ?_
      rintro e w2 ⟨rfl, rfl⟩
      unfold daysY
      go_wp2_with fail
      go_loopw [0, 3] (fun q a wr => ∃ k : Int, 1 ≤ k ∧ k ≤ m ∧ q = .int .i64 (n - ysI v - aheadM v k) ∧ a = .int .i64 k ∧ wr = w) (fun _ a _ => (m - intOf a).toNat)
      case atStart => exact ⟨1, by omega, by omega, vint (by rw [show aheadM v 1 = 0 by simp [aheadM]]; omega), rfl, by first | exact hw | rfl⟩
      case round =>
        obtain ⟨k, hk1, hk2, rfl, rfl, hw2⟩ := hrel
        have ha := ahead_bd v hk1 (by omega)
        unfold daysY at ha
        have hb2 := len_bd v k
        by_cases hlt : k < m
        · have hmm := ahead_mono v hk1 hlt h4
          have hsu := ahead_succ v hk1 (by omega)
          have hd : lenM v k ≤ n - ysI v - aheadM v k := by have := H7.out; omega
          have hn : n - ysI v - aheadM v k - lenM v k = n - ysI v - aheadM v (k + 1) := by omega
          have HN := Lib.hid hn
          clear hsu hn
          go_wp2_with fail
          refine (mlength_any h1 h2 _).mono ?_
          rintro e w2 ⟨rfl, rfl⟩
          go_wp2_with fail
          refine (mlength_any h1 h2 _).mono ?_
          rintro e w2 ⟨rfl, rfl⟩
          go_wp2_with fail
          go_roundw
          case rel => exact ⟨k + 1, by omega, by omega, vint HN.out, rfl, trivial⟩
          case measure => simp [intOf]; omega
        · have hkm : k = m := by omega
          subst hkm
          have hd : n - ysI v - aheadM v k < lenM v k := by have := H7.out; omega
          have hd0 : 0 ≤ n - ysI v - aheadM v k := by have := H7.out; omega
          go_wp2_with fail
          refine (mlength_any h1 h2 _).mono ?_
          rintro e w2 ⟨rfl, rfl⟩
          go_wp2_with fail
          (try simp only [Exit.inBlock, Exit.then])
          refine bodyPost_ret (results_tmp4 rfl _ _ _) rfl ?_
          exact ⟨ret_t4 rfl rfl (by have := H7.out; omega) rfl, by first | rfl | assumption | (simp [*])⟩
theorem dcivil_out {n : Int} (h : ¬(0 ≤ n ∧ n ≤ 73048)) (w : World) :
    Calls Tryz.prog 151 #[.int .i64 n] w (RetW (.tuple #[.int .i64 0, .int .i64 0, .int .i64 0, .int .i64 50]) w) := by
  go_enter Tryz.func151, Tryz.ntmps151
  go_wp2_with fail
  refine (valid_is (b := false) (by simp; omega) _).mono ?_
  rintro e w1 ⟨rfl, rfl⟩
  go_wp2_with fail
  (try simp only [Exit.inBlock, Exit.then])
  refine bodyPost_ret (results_tmp4 rfl _ _ _) rfl ?_
  exact ⟨rfl, rfl⟩
theorem rcivil_out {n : Int} (h : ¬(0 ≤ n ∧ n ≤ 73048)) (w : World) :
    Calls Tryz.prog 91 #[.int .i64 n] w (RetW (.tuple #[.int .i64 0, .int .i64 0, .int .i64 0, .int .i64 50]) w) := by
  go_enter Tryz.func91, Tryz.ntmps91
  go_wp2_with fail
  refine (dout_is (b := false) (by simp; omega) _).mono ?_
  rintro e w1 ⟨rfl, rfl⟩
  go_wp2_with fail
  (try simp only [Exit.inBlock, Exit.then])
  refine bodyPost_ret (results_tmp4 rfl _ _ _) rfl ?_
  exact ⟨rfl, rfl⟩
end
section
open Go.RowKit
set_option maxHeartbeats 2000000

theorem dweek_in {n : Int} (h1 : 0 ≤ n) (h2 : n ≤ 73048) (w : World) : Calls Tryz.prog 147 #[.int .i64 n] w (RetW (.tuple #[.int .i64 ((n + 5) % 7), .int .i64 0]) w) := by
  go_enter Tryz.func147, Tryz.ntmps147
  go_wp2_with fail
  refine (valid_is (b := true) (by simp; omega) _).mono ?_
  rintro e w1 ⟨rfl, rfl⟩
  go_wp2_with fail
  go_ret2
  exact ⟨rfl, rfl⟩
theorem dweek_out {n : Int} (h : ¬(0 ≤ n ∧ n ≤ 73048)) (w : World) : Calls Tryz.prog 147 #[.int .i64 n] w (RetW (.tuple #[.int .i64 0, .int .i64 50]) w) := by
  go_enter Tryz.func147, Tryz.ntmps147
  go_wp2_with fail
  refine (valid_is (b := false) (by simp; omega) _).mono ?_
  rintro e w1 ⟨rfl, rfl⟩
  go_wp2_with fail
  go_ret2
  exact ⟨rfl, rfl⟩
theorem rweek_in {n : Int} (h1 : 0 ≤ n) (h2 : n ≤ 73048) (w : World) : Calls Tryz.prog 90 #[.int .i64 n] w (RetW (.tuple #[.int .i64 ((n + 5) % 7), .int .i64 0]) w) := by
  go_enter Tryz.func90, Tryz.ntmps90
  go_wp2_with fail
  refine (dout_is (b := true) (by simp; omega) _).mono ?_
  rintro e w1 ⟨rfl, rfl⟩
  go_wp2_with fail
  go_ret2
  exact ⟨rfl, rfl⟩
theorem rweek_out {n : Int} (h : ¬(0 ≤ n ∧ n ≤ 73048)) (w : World) : Calls Tryz.prog 90 #[.int .i64 n] w (RetW (.tuple #[.int .i64 0, .int .i64 50]) w) := by
  go_enter Tryz.func90, Tryz.ntmps90
  go_wp2_with fail
  refine (dout_is (b := false) (by simp; omega) _).mono ?_
  rintro e w1 ⟨rfl, rfl⟩
  go_wp2_with fail
  go_ret2
  exact ⟨rfl, rfl⟩

theorem CV.last {n y m d : Int} (h : CV n y m d) : CV (n + lenM y m - d) y m (lenM y m) :=
  ⟨h.y1, h.y2, h.m1, h.m2, by have := len_bd y m; omega, by omega, by have := h.eq; omega⟩
theorem dend_in {n y m d : Int} (h : CV n y m d) (w : World) : Calls Tryz.prog 152 #[.int .i64 n] w (RetW (.tuple #[.int .i64 (n + lenM y m - d), .int .i64 0]) w) := by
  obtain ⟨hn1, hn2⟩ := h.bd
  have hb := len_bd y m
  have hd1 := h.d1
  have hd2 := h.d2
  have H := Lib.hid h
  clear h
  go_enter Tryz.func152, Tryz.ntmps152
  go_wp2_with fail
  refine (dcivil_in H.out _).mono ?_
  rintro e w1 ⟨rfl, rfl⟩
  go_wp2_with fail
  refine (dlength_in H.out.y1 H.out.y2 H.out.m1 H.out.m2 _).mono ?_
  rintro e w1 ⟨rfl, rfl⟩
  go_wp2_with fail
  go_ret2
  exact ⟨rfl, rfl⟩
theorem dend_out {n : Int} (h : ¬(0 ≤ n ∧ n ≤ 73048)) (w : World) : Calls Tryz.prog 152 #[.int .i64 n] w (RetW (.tuple #[.int .i64 0, .int .i64 50]) w) := by
  go_enter Tryz.func152, Tryz.ntmps152
  go_wp2_with fail
  refine (dcivil_out h _).mono ?_
  rintro e w1 ⟨rfl, rfl⟩
  go_wp2_with fail
  go_ret2
  exact ⟨rfl, rfl⟩
theorem rend_in {n y m d : Int} (h : CV n y m d) (w : World) : Calls Tryz.prog 93 #[.int .i64 n] w (RetW (.tuple #[.int .i64 (n + lenM y m - d), .int .i64 0]) w) := by
  have H := Lib.hid h
  clear h
  go_enter Tryz.func93, Tryz.ntmps93
  go_wp2_with fail
  refine (rcivil_in H.out _).mono ?_
  rintro e w1 ⟨rfl, rfl⟩
  go_wp2_with fail
  refine (mlength_any H.out.y1 H.out.y2 _).mono ?_
  rintro e w1 ⟨rfl, rfl⟩
  go_wp2_with fail
  refine (rfrom_in H.out.last _).mono ?_
  rintro e w1 ⟨rfl, rfl⟩
  go_wp2_with fail
  go_ret2
  exact ⟨rfl, rfl⟩
theorem rend_out {n : Int} (h : ¬(0 ≤ n ∧ n ≤ 73048)) (w : World) : Calls Tryz.prog 93 #[.int .i64 n] w (RetW (.tuple #[.int .i64 0, .int .i64 50]) w) := by
  go_enter Tryz.func93, Tryz.ntmps93
  go_wp2_with fail
  refine (rcivil_out h _).mono ?_
  rintro e w1 ⟨rfl, rfl⟩
  go_wp2_with fail
  go_ret2
  exact ⟨rfl, rfl⟩
end
section
open Go.RowKit
set_option maxHeartbeats 2000000

/-- So many months may be added. -/
def addR (y m a : Int) : Prop := -2400 ≤ a ∧ a ≤ 2400 ∧ 0 ≤ 12 * (y - 2000) + m - 1 + a ∧ 12 * (y - 2000) + m - 1 + a < 2400
end
end
section
section
open Go.RowKit
set_option maxHeartbeats 1000000

/-- A digit. -/
def isDg (c : UInt8) : Bool := decide (48 ≤ c.toNat ∧ c.toNat ≤ 57)
/-- What digits denote. -/
def numV (l : List UInt8) : Int := l.foldl (fun a c => 10 * a + ((c.toNat : Int) - 48)) 0
theorem numV_snoc (l : List UInt8) (c : UInt8) : numV (l ++ [c]) = 10 * numV l + ((c.toNat : Int) - 48) := by simp [numV]
theorem pow_succ10 (k : Nat) : (10 : Int) ^ (k + 1) = 10 * 10 ^ k := by rw [Int.pow_succ, Int.mul_comm]
theorem numV_bd : ∀ (k : Nat) (l : List UInt8), l.length = k → (∀ c ∈ l, isDg c = true) → 0 ≤ numV l ∧ numV l < 10 ^ k
  | 0, l, h, _ => by
    have : l = [] := List.length_eq_zero_iff.1 h
    subst this
    simp [numV]
  | k + 1, l, h, hd => by
    have hne : l ≠ [] := by intro e; rw [e] at h; simp at h
    have hl := (List.dropLast_concat_getLast hne).symm
    have ih := numV_bd k l.dropLast (by simp; omega) (fun c hc => hd c (List.dropLast_subset _ hc))
    have hc := hd _ (List.getLast_mem hne)
    simp only [isDg, decide_eq_true_eq] at hc
    rw [hl, numV_snoc, pow_succ10]
    omega
theorem numV_bd10 (l : List UInt8) (h : l.length ≤ 10) (hd : ∀ c ∈ l, isDg c = true) : 0 ≤ numV l ∧ numV l < 10000000000 := by
  obtain ⟨a, b⟩ := numV_bd l.length l rfl hd
  refine ⟨a, Int.lt_of_lt_of_le b ?_⟩
  have e : (10000000000 : Int) = 10 ^ 10 := by decide
  rw [e]
  exact_mod_cast Nat.pow_le_pow_right (by omega) h
theorem take_snocD (s : ByteArray) (k : Nat) (h : k < s.size) : s.data.toList.take (k + 1) = s.data.toList.take k ++ [s[k]] := by
  rw [List.take_succ_eq_append_getElem (by simpa using h)]; rfl

theorem u8sub {c : UInt8} (h : isDg c = true) : ((c - 48).toNat : Int) = (c.toNat : Int) - 48 := by
  simp only [isDg, decide_eq_true_eq] at h
  rw [UInt8.toNat_sub_of_le]
  · have : (48 : UInt8).toNat = 48 := rfl
    omega
  · show (48 : UInt8).toNat ≤ c.toNat
    exact h.1

theorem ret_ib {k : IntKind} {a b : Int} {c : Bool} (h : a = b) : Ending.returned (.tuple #[.int k a, .bool c]) = .returned (.tuple #[.int k b, .bool c]) := by rw [h]
end
section
open Go.RowKit
set_option maxHeartbeats 1000000

/-- All bytes are digits. -/
def numB (s : ByteArray) : Bool := s.data.toList.all isDg
/-- The number, or 0. -/
def numI (s : ByteArray) : Int := if numB s = true then numV s.data.toList else 0
theorem numB_yes {s : ByteArray} (h : numB s = true) (k : Nat) (hk : k < s.size) : isDg s[k] = true := by
  unfold numB at h
  rw [List.all_eq_true] at h
  refine h _ ?_
  show s.data[k] ∈ s.data.toList
  simp
theorem numB_no {s : ByteArray} (h : numB s = false) : ∃ (j : Nat) (hj : j < s.size), (∀ k (h : k < s.size), k < j → isDg s[k] = true) ∧ isDg s[j] = false := by
  have hlt : s.data.toList.findIdx (fun c => !isDg c) < s.data.toList.length := by
    apply List.findIdx_lt_length_of_exists
    unfold numB at h
    rw [List.all_eq_false] at h
    obtain ⟨c, hc, hd⟩ := h
    exact ⟨c, hc, by simpa using hd⟩
  have hlt2 : s.data.toList.findIdx (fun c => !isDg c) < s.size := by simpa using hlt
  refine ⟨_, hlt2, fun k hk hkj => ?_, ?_⟩
  · have := List.not_of_lt_findIdx (p := fun c => !isDg c) (xs := s.data.toList) hkj
    have h2 : isDg s.data[k] = true := by simpa using this
    exact h2
  · have := List.findIdx_getElem (p := fun c => !isDg c) (xs := s.data.toList) (w := hlt)
    have h2 : isDg (s.data[s.data.toList.findIdx (fun c => !isDg c)]'hlt2) = false := by simpa using this
    exact h2
/-- The text has the form of a date. -/
def formB (s : ByteArray) : Bool := if h : s.size = 10 then decide (s[4].toNat = 45 ∧ s[7].toNat = 45) && (numB (s.extract 0 4) && numB (s.extract 5 7) && numB (s.extract 8 s.size)) else false
theorem ext_le (s : ByteArray) (a b : Nat) : (s.extract a b).size ≤ b - a := by
  rw [ByteArray.size_extract]; omega

/-- What a text is read as: a day and no error, or the error. -/
def ParseR (s : ByteArray) (v e : Int) : Prop :=
  (formB s = false ∧ v = 0 ∧ e = 52) ∨
  (formB s = true ∧ ((CV v (numI (s.extract 0 4)) (numI (s.extract 5 7)) (numI (s.extract 8 s.size)) ∧ e = 0) ∨ (¬dateR (numI (s.extract 0 4)) (numI (s.extract 5 7)) (numI (s.extract 8 s.size)) ∧ v = 0 ∧ e = 51)))
theorem parse_ex (s : ByteArray) : ∃ v e, ParseR s v e := by
  cases h : formB s
  · exact ⟨0, 52, .inl ⟨h, rfl, rfl⟩⟩
  · by_cases hd : dateR (numI (s.extract 0 4)) (numI (s.extract 5 7)) (numI (s.extract 8 s.size))
    · obtain ⟨n, hn⟩ := hd.cv
      exact ⟨n, 0, .inr ⟨h, .inl ⟨hn, rfl⟩⟩⟩
    · exact ⟨0, 51, .inr ⟨h, .inr ⟨hd, rfl, rfl⟩⟩⟩
end
end
section
open Go.RowKit
set_option maxHeartbeats 4000000

/-- Byte i of the text, when the first k of its three numbers have been written. -/
def stg (y m d : Int) (k i : Nat) : Int :=
  if i = 4 ∨ i = 7 then 45 else
  if i ≤ 3 then (if 1 ≤ k then 48 + y / 10 ^ (3 - i) % 10 else 48) else
  if i ≤ 6 then (if 2 ≤ k then 48 + m / 10 ^ (6 - i) % 10 else 48) else
  if 3 ≤ k then 48 + d / 10 ^ (9 - i) % 10 else 48
/-- .. and j digits more of a number whose last digit is byte L. -/
def stj (C : Nat → Int) (v : Int) (L j i : Nat) : Int := if i ≤ L ∧ L < i + j then 48 + v / 10 ^ (L - i) % 10 else C i
def mkA (C : Nat → Int) : Array Value := ((List.range 10).map fun i => Value.int .u8 (C i)).toArray
/-- The text of a day. -/
def fmtS (y m d : Int) : ByteArray := ⟨((List.range 10).map fun i => UInt8.ofNat (stg y m d 3 i).toNat).toArray⟩
theorem mkA_at (C : Nat → Int) {i : Nat} (h : i < 10) : (mkA C)[i]? = some (.int .u8 (C i)) := by
  unfold mkA
  simp [h]
theorem mkA_congr {C C' : Nat → Int} (h : ∀ i, i < 10 → C i = C' i) : mkA C = mkA C' := by
  unfold mkA
  congr 1
  apply List.map_congr_left
  intro i hi
  rw [h i (by simpa using hi)]
theorem mkA_set (C : Nat → Int) (i : Nat) (v : Int) : (mkA C).setIfInBounds i (.int .u8 v) = mkA (fun k => if k = i then v else C k) := by
  unfold mkA
  apply Array.ext
  · simp
  · intro k h1 h2
    by_cases e : i = k
    · subst e; simp
    · simp [e]
      intro h
      exact absurd h.symm e
theorem stj_48 (C : Nat → Int) (v : Int) (L j : Nat) (x : Int) (h : L - j < 10) (hj : j ≤ L) (hx : C (L - j) = x) : (mkA (stj C v L j))[L - j]? = some (.int .u8 x) := by
  rw [mkA_at _ h]
  unfold stj
  rw [if_neg (by omega), hx]
theorem frozen_10 {w : World} {g i : Nat} {cs : Array Value} {t : TypeId} (h : w.heap[g]? = some (.cells cs t (10, 11))) (hi : i < 10) : w.frozen? ⟨g, i, none⟩ = false := by
  simp [World.frozen?, h]
  omega
theorem heap_al {w : World} {b : Nat} {r : Option Obj} (o : Obj) (h : b < w.heap.size) (hr : w.heap[b]? = r) : (w.alloc o).heap[b]? = r := by
  rw [← hr]
  show (w.heap.push o)[b]? = _
  rw [Array.getElem?_push, if_neg (by omega)]
theorem heap_far {w : World} {p : Addr} {b : Nat} {v : Value} {r : Option Obj} (h : b ≠ p.block) (hr : w.heap[b]? = r) : (w.setCell p v).heap[b]? = r := (Below.heap_setCell w p v b h).trans hr
theorem dig_zero {v : Int} {j e : Nat} (hv : 0 ≤ v) (h0 : v / 10 ^ j = 0) (h : j ≤ e) : v / 10 ^ e = 0 := by
  have h1 : (0 : Int) < 10 ^ j := Int.pow_pos (by decide)
  have h2 : v < 10 ^ j := by
    rcases Int.lt_or_le v (10 ^ j) with hx | hx
    · exact hx
    · have := Int.ediv_le_ediv h1 hx
      rw [Int.ediv_self (by omega)] at this
      omega
  have h3 : (10 : Int) ^ j ≤ 10 ^ e := by exact_mod_cast Nat.pow_le_pow_right (by omega) h
  exact Int.ediv_eq_zero_of_lt hv (by omega)
theorem dig_next {v q : Int} {j : Nat} (h : q = v / 10 ^ j) : q / 10 = v / 10 ^ (j + 1) := by
  rw [h, Int.ediv_ediv_of_nonneg (Int.le_of_lt (Int.pow_pos (by decide))), Int.pow_succ]
theorem dig_lt {v q : Int} {j J : Nat} (hv : 0 ≤ v) (hJ : v < 10 ^ J) (h : q = v / 10 ^ j) (hq : 0 < q) : j < J := by
  rcases Nat.lt_or_ge j J with hx | hx
  · exact hx
  · have := dig_zero (e := j) hv (Int.ediv_eq_zero_of_lt hv hJ) hx
    omega
theorem stj_step {C : Nat → Int} {v q : Int} {L j : Nat} (h : q = v / 10 ^ j) (hj : j ≤ L) (k : Nat) : (if k = L - j then 48 + q % 10 else stj C v L j k) = stj C v L (j + 1) k := by
  unfold stj
  by_cases e : k = L - j
  · rw [if_pos e, if_pos (by omega), show L - k = j by omega, h]
  · rw [if_neg e]
    by_cases c : k ≤ L ∧ L < k + j
    · rw [if_pos c, if_pos (by omega)]
    · rw [if_neg c, if_neg (by omega)]
theorem fmt_step {w wr : World} {B z i L : Nat} {C C' : Nat → Int} {v q q' l : Int} {S : Array Value} {T U : TypeId}
    (hb : wr.heap[B]? = some (.cells (mkA C) U (10, 11))) (hp : wr.heap[z]? = some (.cells #[.int .i64 q, .int .i64 l] T (0, 0))) (hs : wr.heap[B + 1]? = some (.cells S T (0, 0)))
    (hz : B + 1 < z) (hC : ∀ k, k < 10 → (if k = i then v else C k) = C' k) (hbel : Below L w wr) (hB : L ≤ B) :
    (((wr.setCell ⟨B, i, none⟩ (.int .u8 v)).drew).setCell ⟨z, 0, none⟩ (.int .i64 q')).heap[B]? = some (.cells (mkA C') U (10, 11)) ∧
    (((wr.setCell ⟨B, i, none⟩ (.int .u8 v)).drew).setCell ⟨z, 0, none⟩ (.int .i64 q')).heap[z]? = some (.cells #[.int .i64 q', .int .i64 l] T (0, 0)) ∧
    (((wr.setCell ⟨B, i, none⟩ (.int .u8 v)).drew).setCell ⟨z, 0, none⟩ (.int .i64 q')).heap[B + 1]? = some (.cells S T (0, 0)) ∧
    Below L w (((wr.setCell ⟨B, i, none⟩ (.int .u8 v)).drew).setCell ⟨z, 0, none⟩ (.int .i64 q')) := by
  refine ⟨heap_far (by show B ≠ z; omega) ?_, ?_, heap_far (by show B + 1 ≠ z; omega) ?_, ?_⟩
  · have := Joins.block_setCell (i := i) hb (.int .u8 v)
    rw [mkA_set, mkA_congr hC] at this
    exact this
  · exact Joins.block_setCell (w := (wr.setCell ⟨B, i, none⟩ (.int .u8 v)).drew) (i := 0) (heap_far (w := wr) (p := ⟨B, i, none⟩) (by show z ≠ B; omega) hp) (.int .i64 q')
  · exact heap_far (w := wr) (p := ⟨B, i, none⟩) (by show B + 1 ≠ B; omega) hs
  · exact ((hbel.setCell hB _).drew).setCell (show L ≤ (⟨z, 0, none⟩ : Addr).block by show L ≤ z; omega) _
theorem stg_next0 {y m d : Int} {j : Nat} (hv : 0 ≤ y) (h : y / 10 ^ j = 0) (i : Nat) (hi : i < 10) : stj (stg y m d 0) y 3 j i = stg y m d 1 i := by
  unfold stj stg
  by_cases a : i ≤ 3
  · by_cases c : 3 < i + j
    · simp [a, c, show ¬(i = 4 ∨ i = 7) by omega]
    · simp [a, c, show ¬(i = 4 ∨ i = 7) by omega, dig_zero hv h (show j ≤ 3 - i by omega)]
  · simp [a]
theorem stg_next1 {y m d : Int} {j : Nat} (hj : j ≤ 2) (hv : 0 ≤ m) (h : m / 10 ^ j = 0) (i : Nat) (hi : i < 10) : stj (stg y m d 1) m 6 j i = stg y m d 2 i := by
  unfold stj stg
  by_cases e : i = 4 ∨ i = 7
  · rw [if_neg (by omega), if_pos e, if_pos e]
  by_cases a : i ≤ 3
  · simp [a, e]
    omega
  · by_cases b : i ≤ 6
    · by_cases c : 6 < i + j
      · simp [a, b, c, e]
      · simp [a, b, c, e, dig_zero hv h (show j ≤ 6 - i by omega)]
    · simp [a, b, e]
theorem stg_next2 {y m d : Int} {j : Nat} (hj : j ≤ 2) (hv : 0 ≤ d) (h : d / 10 ^ j = 0) (i : Nat) (hi : i < 10) : stj (stg y m d 2) d 9 j i = stg y m d 3 i := by
  unfold stj stg
  by_cases e : i = 4 ∨ i = 7
  · rw [if_neg (by omega), if_pos e, if_pos e]
  by_cases a : i ≤ 3
  · simp [a, e]
    omega
  · by_cases b : i ≤ 6
    · simp [a, b, e]
      omega
    · by_cases c : 9 < i + j
      · simp [a, b, c, e]
        omega
      · simp [a, b, c, e, dig_zero hv h (show j ≤ 9 - i by omega)]
theorem fmtS_bytes {wr : World} {B : Nat} {U : TypeId} {y m d : Int} (hb : wr.heap[B]? = some (.cells (mkA (stg y m d 3)) U (10, 11))) : Lib.Bytes wr B 0 (fmtS y m d) := by
  intro i hi
  have hi10 : i < 10 := hi
  rw [Nat.zero_add, Joins.cell_of_block hb, mkA_at _ hi10]
  have h2 : (fmtS y m d)[i]'hi = UInt8.ofNat (stg y m d 3 i).toNat := by
    have e : (fmtS y m d)[i]'hi = ((List.range 10).map fun i => UInt8.ofNat (stg y m d 3 i).toNat)[i]'(by simpa using hi10) := rfl
    rw [e, List.getElem_map, List.getElem_range]
  have h1 : 0 ≤ stg y m d 3 i ∧ stg y m d 3 i < 256 := by
    unfold stg
    split
    · omega
    · split
      · rw [if_pos (by omega)]; omega
      · split
        · rw [if_pos (by omega)]; omega
        · rw [if_pos (by omega)]; omega
  have key : stg y m d 3 i = (((fmtS y m d)[i]'hi).toNat : Int) := by
    rw [h2, UInt8.toNat_ofNat']
    omega
  exact congrArg (fun x => some (Value.int .u8 x)) key

/-- Two digits. -/
def twoS (n : Int) : ByteArray := ⟨#[UInt8.ofNat (48 + n / 10).toNat, UInt8.ofNat (48 + n % 10).toNat]⟩
theorem ten_at (k : Nat) (h : k < 10) : (⟨#[48, 49, 50, 51, 52, 53, 54, 55, 56, 57]⟩ : ByteArray).extract k (k + 1) = ⟨#[UInt8.ofNat (48 + k)]⟩ := by
  have : k = 0 ∨ k = 1 ∨ k = 2 ∨ k = 3 ∨ k = 4 ∨ k = 5 ∨ k = 6 ∨ k = 7 ∨ k = 8 ∨ k = 9 := by omega
  rcases this with rfl | rfl | rfl | rfl | rfl | rfl | rfl | rfl | rfl | rfl <;> rfl
theorem two_eq (n : Int) (h1 : 0 ≤ n) (h2 : n ≤ 99) : (⟨#[48, 49, 50, 51, 52, 53, 54, 55, 56, 57]⟩ : ByteArray).extract (n / 10).toNat (n / 10 + 1).toNat ++ (⟨#[48, 49, 50, 51, 52, 53, 54, 55, 56, 57]⟩ : ByteArray).extract (n % 10).toNat (n % 10 + 1).toNat = twoS n := by
  rw [show (n / 10 + 1).toNat = (n / 10).toNat + 1 by omega, show (n % 10 + 1).toNat = (n % 10).toNat + 1 by omega, ten_at _ (by omega), ten_at _ (by omega)]
  unfold twoS
  rw [show (48 + n / 10).toNat = 48 + (n / 10).toNat by omega, show (48 + n % 10).toNat = 48 + (n % 10).toNat by omega]
  rfl
theorem fmt_eq (y m d : Int) (hy1 : 2000 ≤ y) (hy2 : y ≤ 2199) (hm1 : 1 ≤ m) (hm2 : m ≤ 12) (hd1 : 1 ≤ d) (hd2 : d ≤ 31) :
    twoS (y / 100) ++ twoS (y % 100) ++ ⟨#[45]⟩ ++ twoS m ++ ⟨#[45]⟩ ++ twoS d = fmtS y m d := by
  have e : fmtS y m d = ⟨#[UInt8.ofNat (48 + y / 1000 % 10).toNat, UInt8.ofNat (48 + y / 100 % 10).toNat, UInt8.ofNat (48 + y / 10 % 10).toNat, UInt8.ofNat (48 + y / 1 % 10).toNat, 45,
      UInt8.ofNat (48 + m / 10 % 10).toNat, UInt8.ofNat (48 + m / 1 % 10).toNat, 45, UInt8.ofNat (48 + d / 10 % 10).toNat, UInt8.ofNat (48 + d / 1 % 10).toNat]⟩ := rfl
  rw [e, show y / 1000 % 10 = y / 100 / 10 by omega, show y / 10 % 10 = y % 100 / 10 by omega, show y / 1 % 10 = y % 100 % 10 by omega, show m / 10 % 10 = m / 10 by omega, show m / 1 % 10 = m % 10 by omega,
    show d / 10 % 10 = d / 10 by omega, show d / 1 % 10 = d % 10 by omega]
  rfl
end
section
open Go.RowKit
set_option maxHeartbeats 4000000
set_option linter.unusedVariables false

def dayR (n : Int) : Prop := 0 ≤ n ∧ n ≤ 73048
def LenR (y m v e : Int) : Prop := (monthR y m ∧ v = lenM y m ∧ e = 0) ∨ (¬monthR y m ∧ v = 0 ∧ e = 51)
def FromR (y m d v e : Int) : Prop := (CV v y m d ∧ e = 0) ∨ (¬dateR y m d ∧ v = 0 ∧ e = 51)
def CivilR (n y m d e : Int) : Prop := (CV n y m d ∧ e = 0) ∨ (¬(0 ≤ n ∧ n ≤ 73048) ∧ y = 0 ∧ m = 0 ∧ d = 0 ∧ e = 50)
def WeekR (n v e : Int) : Prop := (0 ≤ n ∧ n ≤ 73048 ∧ v = (n + 5) % 7 ∧ e = 0) ∨ (¬(0 ≤ n ∧ n ≤ 73048) ∧ v = 0 ∧ e = 50)
def EndR (n v e : Int) : Prop := (∃ y m d, CV n y m d ∧ v = n + lenM y m - d ∧ e = 0) ∨ (¬(0 ≤ n ∧ n ≤ 73048) ∧ v = 0 ∧ e = 50)
def AddR (n a v e : Int) : Prop :=
  (∃ y m d d', CV n y m d ∧ addR y m a ∧ d' = min d (lenM (2000 + (12 * (y - 2000) + m - 1 + a) / 12) ((12 * (y - 2000) + m - 1 + a) % 12 + 1)) ∧
    CV v (2000 + (12 * (y - 2000) + m - 1 + a) / 12) ((12 * (y - 2000) + m - 1 + a) % 12 + 1) d' ∧ e = 0) ∨
  (∃ y m d, CV n y m d ∧ ¬addR y m a ∧ v = 0 ∧ e = 51) ∨ (¬(0 ≤ n ∧ n ≤ 73048) ∧ v = 0 ∧ e = 50)
def FmtR (n : Int) (s : ByteArray) (e : Int) : Prop := (∃ y m d, CV n y m d ∧ s = fmtS y m d ∧ e = 0) ∨ (¬(0 ≤ n ∧ n ≤ 73048) ∧ s = ⟨#[]⟩ ∧ e = 50)
theorem day_or (n : Int) : (∃ y m d, CV n y m d) ∨ ¬(0 ≤ n ∧ n ≤ 73048) := by
  by_cases h : 0 ≤ n ∧ n ≤ 73048
  · exact .inl (cv_any n h.1 h.2)
  · exact .inr h
theorem len_ex (y m : Int) : ∃ v e, LenR y m v e := by
  by_cases h : monthR y m
  · exact ⟨_, _, .inl ⟨h, rfl, rfl⟩⟩
  · exact ⟨_, _, .inr ⟨h, rfl, rfl⟩⟩
theorem from_ex (y m d : Int) : ∃ v e, FromR y m d v e := by
  by_cases h : dateR y m d
  · obtain ⟨n, hn⟩ := h.cv
    exact ⟨_, _, .inl ⟨hn, rfl⟩⟩
  · exact ⟨_, _, .inr ⟨h, rfl, rfl⟩⟩
theorem civil_ex (n : Int) : ∃ y m d e, CivilR n y m d e := by
  rcases day_or n with ⟨y, m, d, h⟩ | h
  · exact ⟨_, _, _, _, .inl ⟨h, rfl⟩⟩
  · exact ⟨_, _, _, _, .inr ⟨h, rfl, rfl, rfl, rfl⟩⟩
theorem week_ex (n : Int) : ∃ v e, WeekR n v e := by
  by_cases h : 0 ≤ n ∧ n ≤ 73048
  · exact ⟨_, _, .inl ⟨h.1, h.2, rfl, rfl⟩⟩
  · exact ⟨_, _, .inr ⟨h, rfl, rfl⟩⟩
theorem end_ex (n : Int) : ∃ v e, EndR n v e := by
  rcases day_or n with ⟨y, m, d, h⟩ | h
  · exact ⟨_, _, .inl ⟨_, _, _, h, rfl, rfl⟩⟩
  · exact ⟨_, _, .inr ⟨h, rfl, rfl⟩⟩
theorem add_cv {y m d a : Int} (hd : 1 ≤ d) (ha : addR y m a) : ∃ v, CV v (2000 + (12 * (y - 2000) + m - 1 + a) / 12) ((12 * (y - 2000) + m - 1 + a) % 12 + 1) (min d (lenM (2000 + (12 * (y - 2000) + m - 1 + a) / 12) ((12 * (y - 2000) + m - 1 + a) % 12 + 1))) := by
  obtain ⟨a1, a2, a3, a4⟩ := ha
  have hb := len_bd (2000 + (12 * (y - 2000) + m - 1 + a) / 12) ((12 * (y - 2000) + m - 1 + a) % 12 + 1)
  exact ⟨_, by omega, by omega, by omega, by omega, by omega, by omega, rfl⟩
theorem add_ex (n a : Int) : ∃ v e, AddR n a v e := by
  rcases day_or n with ⟨y, m, d, h⟩ | h
  · by_cases ha : addR y m a
    · obtain ⟨v, hv⟩ := add_cv h.d1 ha
      exact ⟨v, 0, .inl ⟨y, m, d, _, h, ha, rfl, hv, rfl⟩⟩
    · exact ⟨0, 51, .inr (.inl ⟨y, m, d, h, ha, rfl, rfl⟩)⟩
  · exact ⟨0, 50, .inr (.inr ⟨h, rfl, rfl⟩)⟩
theorem fmt_ex (n : Int) : ∃ s e, FmtR n s e := by
  rcases day_or n with ⟨y, m, d, h⟩ | h
  · exact ⟨_, _, .inl ⟨_, _, _, h, rfl, rfl⟩⟩
  · exact ⟨_, _, .inr ⟨h, rfl, rfl⟩⟩
theorem dlen_is {y m v e : Int} (h : LenR y m v e) (w : World) : Calls Tryz.prog 155 #[.int .i64 y, .int .i64 m] w (RetW (.tuple #[.int .i64 v, .int .i64 e]) w) := by
  rcases h with ⟨h, rfl, rfl⟩ | ⟨h, rfl, rfl⟩
  · exact dlength_in h.1 h.2.1 h.2.2.1 h.2.2.2 w
  · exact dlength_out h w
theorem rlen_is {y m v e : Int} (h : LenR y m v e) (w : World) : Calls Tryz.prog 111 #[.int .i64 y, .int .i64 m] w (RetW (.tuple #[.int .i64 v, .int .i64 e]) w) := by
  rcases h with ⟨h, rfl, rfl⟩ | ⟨h, rfl, rfl⟩
  · exact rlength_in h.1 h.2.1 h.2.2.1 h.2.2.2 w
  · exact rlength_out h w
theorem rfrom_is {y m d v e : Int} (h : FromR y m d v e) (w : World) : Calls Tryz.prog 92 #[.int .i64 y, .int .i64 m, .int .i64 d] w (RetW (.tuple #[.int .i64 v, .int .i64 e]) w) := by
  rcases h with ⟨h, rfl⟩ | ⟨h, rfl, rfl⟩
  · exact rfrom_in h w
  · exact rfrom_out h w
theorem dcivil_is {n y m d e : Int} (h : CivilR n y m d e) (w : World) : Calls Tryz.prog 151 #[.int .i64 n] w (RetW (.tuple #[.int .i64 y, .int .i64 m, .int .i64 d, .int .i64 e]) w) := by
  rcases h with ⟨h, rfl⟩ | ⟨h, rfl, rfl, rfl, rfl⟩
  · exact dcivil_in h w
  · exact dcivil_out h w
theorem rcivil_is {n y m d e : Int} (h : CivilR n y m d e) (w : World) : Calls Tryz.prog 91 #[.int .i64 n] w (RetW (.tuple #[.int .i64 y, .int .i64 m, .int .i64 d, .int .i64 e]) w) := by
  rcases h with ⟨h, rfl⟩ | ⟨h, rfl, rfl, rfl, rfl⟩
  · exact rcivil_in h w
  · exact rcivil_out h w
theorem dweek_is {n v e : Int} (h : WeekR n v e) (w : World) : Calls Tryz.prog 147 #[.int .i64 n] w (RetW (.tuple #[.int .i64 v, .int .i64 e]) w) := by
  rcases h with ⟨h, h', rfl, rfl⟩ | ⟨h, rfl, rfl⟩
  · exact dweek_in h h' w
  · exact dweek_out h w
theorem rweek_is {n v e : Int} (h : WeekR n v e) (w : World) : Calls Tryz.prog 90 #[.int .i64 n] w (RetW (.tuple #[.int .i64 v, .int .i64 e]) w) := by
  rcases h with ⟨h, h', rfl, rfl⟩ | ⟨h, rfl, rfl⟩
  · exact rweek_in h h' w
  · exact rweek_out h w
theorem dend_is {n v e : Int} (h : EndR n v e) (w : World) : Calls Tryz.prog 152 #[.int .i64 n] w (RetW (.tuple #[.int .i64 v, .int .i64 e]) w) := by
  rcases h with ⟨y, m, d, h, rfl, rfl⟩ | ⟨h, rfl, rfl⟩
  · exact dend_in h w
  · exact dend_out h w
theorem rend_is {n v e : Int} (h : EndR n v e) (w : World) : Calls Tryz.prog 93 #[.int .i64 n] w (RetW (.tuple #[.int .i64 v, .int .i64 e]) w) := by
  rcases h with ⟨y, m, d, h, rfl, rfl⟩ | ⟨h, rfl, rfl⟩
  · exact rend_in h w
  · exact rend_out h w
theorem kn1 : FromR 2000 2 29 59 0 := .inl ⟨⟨by decide, by decide, by decide, by decide, by decide, by decide, by decide⟩, rfl⟩
theorem kn2 : FromR 2100 2 29 0 51 := .inr ⟨fun h => by have := h.2.2; revert this; decide, rfl, rfl⟩
theorem kn3 : WeekR 0 5 0 := .inl ⟨by decide, by decide, by decide, rfl⟩
theorem kn4 : ParseR ⟨#[50, 48, 50, 52, 45, 48, 49, 45, 51, 49]⟩ 8796 0 := .inr ⟨by decide +kernel, .inl ⟨⟨by decide +kernel, by decide +kernel, by decide +kernel, by decide +kernel, by decide +kernel, by decide +kernel, by decide +kernel⟩, rfl⟩⟩
theorem kn5 : AddR 8796 13 9190 0 := .inl ⟨2024, 1, 31, 28, ⟨by decide, by decide, by decide, by decide, by decide, by decide, by decide⟩, ⟨by decide, by decide, by decide, by decide⟩, by decide, ⟨by decide, by decide, by decide, by decide, by decide, by decide, by decide⟩, rfl⟩
theorem kn6 : FmtR 9190 ⟨#[50, 48, 50, 53, 45, 48, 50, 45, 50, 56]⟩ 0 := .inl ⟨2025, 2, 28, ⟨by decide, by decide, by decide, by decide, by decide, by decide, by decide⟩, by decide +kernel, rfl⟩
end
end Go.Proofs.YtbfllcfjgpkpaaaGreat
