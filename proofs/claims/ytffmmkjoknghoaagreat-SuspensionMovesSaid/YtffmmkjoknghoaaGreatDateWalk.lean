/-
  The walks of dates: leap years, lengths, numbers.
  The walks of dates: lengths of months, numbers of dates, dates of numbers.
  The walks of dates: the document's loops, and dates of numbers.
  The walks of dates: dates of numbers.
  The walks of dates: the document's dates of numbers.
  The walks of dates: weekdays, ends of months, months added.
  The walks of dates: months added.
-/
import Derived.Test.YtffmmkjoknghoaaGreatDatePlain
import Derived.Test.YtffmmkjoknghoaaGreatRows
import Derived.Lib.Hide
namespace Go.Proofs.YtffmmkjoknghoaaGreat
section
open Go.RowKit
set_option maxHeartbeats 1000000

/-- Leap years, whatever the year. -/
def leapT (y : Int) : Bool := decide (Int.tmod y 4 = 0) && (decide (Int.tmod y 100 ≠ 0) || decide (Int.tmod y 400 = 0))
theorem dleap_any (y : Int) (w : World) : Calls Tryz.prog 195 #[.int .i64 y] w (RetW (.bool (leapT y)) w) := by
  unfold leapT
  go_enter Tryz.func195, Tryz.ntmps195
  go_wp2
  all_goals go_ret
  all_goals (refine ⟨ret_bool ?_, rfl⟩; rw [Bool.eq_iff_iff]; simp [*])
theorem rleap_any (y : Int) (w : World) : Calls Tryz.prog 158 #[.int .i64 y] w (RetW (.bool (leapT y)) w) := by
  unfold leapT
  go_enter Tryz.func158, Tryz.ntmps158
  go_wp2
  all_goals go_ret
  all_goals (refine ⟨ret_bool ?_, rfl⟩; rw [Bool.eq_iff_iff]; simp [*])
theorem leapT_in {y : Int} (h1 : 2000 ≤ y) (h2 : y ≤ 2199) : leapT y = decide (lp y = 1) := by
  unfold leapT lp
  rw [Int.tmod_eq_emod_of_nonneg (by omega), Int.tmod_eq_emod_of_nonneg (by omega), Int.tmod_eq_emod_of_nonneg (by omega), Bool.eq_iff_iff]
  simp
  omega
theorem dleap_is {y : Int} {b : Bool} (h1 : 2000 ≤ y) (h2 : y ≤ 2199) (h : decide (lp y = 1) = b) (w : World) : Calls Tryz.prog 195 #[.int .i64 y] w (RetW (.bool b) w) := by
  rw [← h, ← leapT_in h1 h2]; exact dleap_any y w
theorem rleap_is {y : Int} {b : Bool} (h1 : 2000 ≤ y) (h2 : y ≤ 2199) (h : decide (lp y = 1) = b) (w : World) : Calls Tryz.prog 158 #[.int .i64 y] w (RetW (.bool b) w) := by
  rw [← h, ← leapT_in h1 h2]; exact rleap_any y w
theorem lp01 (y : Int) : lp y = 1 ∨ lp y = 0 := by have := lp_bd y; omega

theorem days_any {y : Int} (h1 : 2000 ≤ y) (h2 : y ≤ 2199) (w : World) : Calls Tryz.prog 142 #[.int .i64 y] w (RetW (.int .i64 (daysY y)) w) := by
  unfold daysY
  rcases lp01 y with h | h
  · go_enter Tryz.func142, Tryz.ntmps142
    go_wp2_with fail
    refine (rleap_is (b := true) h1 h2 (by simp [h]) _).mono ?_
    rintro e w1 ⟨rfl, rfl⟩
    go_wp2
    go_ret
    exact ⟨ret_int (by omega), rfl⟩
  · go_enter Tryz.func142, Tryz.ntmps142
    go_wp2_with fail
    refine (rleap_is (b := false) h1 h2 (by simp [h]) _).mono ?_
    rintro e w1 ⟨rfl, rfl⟩
    go_wp2
    go_ret
    exact ⟨ret_int (by omega), rfl⟩
theorem mlength_any {y m : Int} (h1 : 2000 ≤ y) (h2 : y ≤ 2199) (w : World) : Calls Tryz.prog 143 #[.int .i64 y, .int .i64 m] w (RetW (.int .i64 (lenM y m)) w) := by
  have hl := lp_bd y
  unfold lenM
  by_cases m2 : m = 2
  · subst m2
    go_enter Tryz.func143, Tryz.ntmps143
    go_wp2_with fail
    refine (days_any h1 h2 _).mono ?_
    rintro e w1 ⟨rfl, rfl⟩
    unfold daysY
    go_wp2
    go_ret
    exact ⟨ret_int (by omega), rfl⟩
  · rw [if_neg m2]
    by_cases m4 : m = 4
    · subst m4
      go_enter Tryz.func143, Tryz.ntmps143
      go_wp2
      go_ret
      exact ⟨rfl, rfl⟩
    by_cases m6 : m = 6
    · subst m6
      go_enter Tryz.func143, Tryz.ntmps143
      go_wp2
      go_ret
      exact ⟨rfl, rfl⟩
    by_cases m9 : m = 9
    · subst m9
      go_enter Tryz.func143, Tryz.ntmps143
      go_wp2
      go_ret
      exact ⟨rfl, rfl⟩
    by_cases m11 : m = 11
    · subst m11
      go_enter Tryz.func143, Tryz.ntmps143
      go_wp2
      go_ret
      exact ⟨rfl, rfl⟩
    rw [if_neg (by omega)]
    go_enter Tryz.func143, Tryz.ntmps143
    go_wp2
    go_ret
    exact ⟨rfl, rfl⟩
theorem ystart_any {y : Int} (h1 : 2000 ≤ y) (h2 : y ≤ 2200) (w : World) : Calls Tryz.prog 192 #[.int .i64 y] w (RetW (.int .i64 (ysI y)) w) := by
  unfold ysI
  by_cases hy : y > 2100
  · rw [if_pos hy]
    go_enter Tryz.func192, Tryz.ntmps192
    go_wp2
    go_ret
    exact ⟨ret_int (by omega), rfl⟩
  · rw [if_neg hy]
    go_enter Tryz.func192, Tryz.ntmps192
    go_wp2
    go_ret
    exact ⟨ret_int (by omega), rfl⟩
theorem valid_any (n : Int) (w : World) : Calls Tryz.prog 187 #[.int .i64 n] w (RetW (.bool (decide (0 ≤ n ∧ n ≤ 73048))) w) := by
  go_enter Tryz.func187, Tryz.ntmps187
  go_wp2
  all_goals go_ret
  all_goals (refine ⟨ret_bool ?_, rfl⟩; rw [Bool.eq_iff_iff]; simp; try omega)
theorem valid_is {n : Int} {b : Bool} (h : decide (0 ≤ n ∧ n ≤ 73048) = b) (w : World) : Calls Tryz.prog 187 #[.int .i64 n] w (RetW (.bool b) w) := by rw [← h]; exact valid_any n w
theorem dout_any (n : Int) (w : World) : Calls Tryz.prog 77 #[.int .i64 n] w (RetW (.bool (!decide (0 ≤ n ∧ n ≤ 73048))) w) := by
  go_enter Tryz.func77, Tryz.ntmps77
  go_wp2
  all_goals go_ret
  all_goals (refine ⟨ret_bool ?_, rfl⟩; rw [Bool.eq_iff_iff]; simp; try omega)
theorem dout_is {n : Int} {b : Bool} (h : decide (0 ≤ n ∧ n ≤ 73048) = b) (w : World) : Calls Tryz.prog 77 #[.int .i64 n] w (RetW (.bool (!b)) w) := by rw [← h]; exact dout_any n w

set_option maxHeartbeats 4000000 in
theorem dahead_any {y m : Int} (h1 : 2000 ≤ y) (h2 : y ≤ 2199) (h3 : 1 ≤ m) (h4 : m ≤ 12) (w : World) : Calls Tryz.prog 193 #[.int .i64 y, .int .i64 m] w (RetW (.int .i64 (aheadM y m)) w) := by
  rcases lp01 y with h | h
  · have hh := m12 h3 h4
    clear h3 h4
    rcases hh with rfl | rfl | rfl | rfl | rfl | rfl | rfl | rfl | rfl | rfl | rfl | rfl <;> simp only [aheadM, h]
    all_goals
      go_enter Tryz.func193, Tryz.ntmps193
      go_wp2_with fail
      try (refine (dleap_is (b := true) h1 h2 (by simp [h]) _).mono ?_; rintro e w1 ⟨rfl, rfl⟩; go_wp2)
      go_ret
      exact ⟨rfl, rfl⟩
  · have hh := m12 h3 h4
    clear h3 h4
    rcases hh with rfl | rfl | rfl | rfl | rfl | rfl | rfl | rfl | rfl | rfl | rfl | rfl <;> simp only [aheadM, h]
    all_goals
      go_enter Tryz.func193, Tryz.ntmps193
      go_wp2_with fail
      try (refine (dleap_is (b := false) h1 h2 (by simp [h]) _).mono ?_; rintro e w1 ⟨rfl, rfl⟩; go_wp2)
      go_ret
      exact ⟨rfl, rfl⟩
end
section
open Go.RowKit
set_option maxHeartbeats 1000000

theorem ret_t2 {k k' : IntKind} {a b c d : Int} (h : a = c) (h' : b = d) : Ending.returned (.tuple #[.int k a, .int k' b]) = .returned (.tuple #[.int k c, .int k' d]) := by rw [h, h']
/-- A month that there is. -/
def monthR (y m : Int) : Prop := 2000 ≤ y ∧ y ≤ 2199 ∧ 1 ≤ m ∧ m ≤ 12
theorem dlength_in {y m : Int} (h1 : 2000 ≤ y) (h2 : y ≤ 2199) (h3 : 1 ≤ m) (h4 : m ≤ 12) (w : World) :
    Calls Tryz.prog 194 #[.int .i64 y, .int .i64 m] w (RetW (.tuple #[.int .i64 (lenM y m), .int .i64 0]) w) := by
  by_cases h12 : m = 12
  · subst h12
    go_enter Tryz.func194, Tryz.ntmps194
    go_wp2_with fail
    go_ret2
    exact ⟨rfl, rfl⟩
  · have ha := ahead_succ y h3 (by omega)
    have hb := len_bd y m
    have hc := ahead_bd y h3 h4
    have hl := lp_bd y
    unfold daysY at hc
    go_enter Tryz.func194, Tryz.ntmps194
    go_wp2_with fail
    refine (dahead_any h1 h2 (by omega) (by omega) _).mono ?_
    rintro e w1 ⟨rfl, rfl⟩
    go_wp2_with fail
    refine (dahead_any h1 h2 h3 h4 _).mono ?_
    rintro e w1 ⟨rfl, rfl⟩
    go_wp2_with fail
    go_ret2
    exact ⟨ret_t2 (by omega) rfl, rfl⟩
theorem dlength_out {y m : Int} (h : ¬monthR y m) (w : World) :
    Calls Tryz.prog 194 #[.int .i64 y, .int .i64 m] w (RetW (.tuple #[.int .i64 0, .int .i64 51]) w) := by
  unfold monthR at h
  by_cases a1 : y < 2000
  · go_enter Tryz.func194, Tryz.ntmps194
    go_wp2_with fail
    go_ret2
    exact ⟨rfl, rfl⟩
  by_cases a2 : 2199 < y
  · go_enter Tryz.func194, Tryz.ntmps194
    go_wp2_with fail
    go_ret2
    exact ⟨rfl, rfl⟩
  by_cases a3 : m < 1
  · go_enter Tryz.func194, Tryz.ntmps194
    go_wp2_with fail
    go_ret2
    exact ⟨rfl, rfl⟩
  have a4 : 12 < m := by omega
  go_enter Tryz.func194, Tryz.ntmps194
  go_wp2_with fail
  go_ret2
  exact ⟨rfl, rfl⟩
theorem rlength_in {y m : Int} (h1 : 2000 ≤ y) (h2 : y ≤ 2199) (h3 : 1 ≤ m) (h4 : m ≤ 12) (w : World) :
    Calls Tryz.prog 144 #[.int .i64 y, .int .i64 m] w (RetW (.tuple #[.int .i64 (lenM y m), .int .i64 0]) w) := by
  go_enter Tryz.func144, Tryz.ntmps144
  go_wp2_with fail
  refine (mlength_any h1 h2 _).mono ?_
  rintro e w1 ⟨rfl, rfl⟩
  go_wp2_with fail
  go_ret2
  exact ⟨rfl, rfl⟩
theorem rlength_out {y m : Int} (h : ¬monthR y m) (w : World) :
    Calls Tryz.prog 144 #[.int .i64 y, .int .i64 m] w (RetW (.tuple #[.int .i64 0, .int .i64 51]) w) := by
  unfold monthR at h
  by_cases a1 : y < 2000
  · go_enter Tryz.func144, Tryz.ntmps144
    go_wp2_with fail
    go_ret2
    exact ⟨rfl, rfl⟩
  by_cases a2 : 2199 < y
  · go_enter Tryz.func144, Tryz.ntmps144
    go_wp2_with fail
    go_ret2
    exact ⟨rfl, rfl⟩
  by_cases a3 : m < 1
  · go_enter Tryz.func144, Tryz.ntmps144
    go_wp2_with fail
    go_ret2
    exact ⟨rfl, rfl⟩
  have a4 : 12 < m := by omega
  go_enter Tryz.func144, Tryz.ntmps144
  go_wp2_with fail
  go_ret2
  exact ⟨rfl, rfl⟩

/-- A date that there is. -/
def dateR (y m d : Int) : Prop := monthR y m ∧ 1 ≤ d ∧ d ≤ lenM y m
theorem CV.range {n y m d : Int} (h : CV n y m d) : dateR y m d := ⟨⟨h.y1, h.y2, h.m1, h.m2⟩, h.d1, h.d2⟩
theorem dateR.cv {y m d : Int} (h : dateR y m d) : ∃ n, CV n y m d := ⟨_, h.1.1, h.1.2.1, h.1.2.2.1, h.1.2.2.2, h.2.1, h.2.2, rfl⟩
end
section
open Go.RowKit
set_option maxHeartbeats 1000000

theorem rfrom_in {n y m d : Int} (h : CV n y m d) (w : World) :
    Calls Tryz.prog 123 #[.int .i64 y, .int .i64 m, .int .i64 d] w (RetW (.tuple #[.int .i64 n, .int .i64 0]) w) := by
  obtain ⟨hn1, hn2⟩ := h.bd
  obtain ⟨h1, h2, h3, h4, h5, h6, h7⟩ := h
  have H7 := Lib.hid h7
  have hb := len_bd y m
  clear h7
  go_enter Tryz.func123, Tryz.ntmps123
  go_wp2_with fail
  refine (rlength_in h1 h2 h3 h4 _).mono ?_
  rintro e w1 ⟨rfl, rfl⟩
  go_wp2_with fail
  go_loopw [10, 11] (fun a b wr => ∃ v : Int, 2000 ≤ v ∧ v ≤ y ∧ b = .int .i64 v ∧ a = .int .i64 (d - 1 + ysI v) ∧ wr = w) (fun _ b _ => (y - intOf b).toNat)
  case atStart => exact ⟨2000, by omega, by omega, rfl, vint (by rw [show ysI 2000 = 0 by decide]; omega), rfl⟩
  case round =>
    obtain ⟨v, hv1, hv2, rfl, rfl, hw⟩ := hrel
    have hs := ys_succ v hv1
    have hy0 := ys_mono hv1
    have hy1 := ys_mono (show v ≤ 2200 by omega)
    rw [show ysI 2000 = 0 by decide] at hy0
    rw [show ysI 2200 = 73049 by decide] at hy1
    by_cases hlt : v < y
    · have hl := lp_bd v
      unfold daysY at hs
      go_wp2_with fail
      refine (days_any hv1 (by omega) _).mono ?_
      rintro e w2 ⟨rfl, rfl⟩
      unfold daysY
      go_wp2_with fail
      go_roundw
      case rel => exact ⟨v + 1, by omega, by omega, rfl, vint (by omega), trivial⟩
      case measure => simp [intOf]; omega
    · have hvy : v = y := by omega
      subst hvy
      clear hs
      go_wp2_with fail
      go_loopw [10, 12] (fun a b wr => ∃ k : Int, 1 ≤ k ∧ k ≤ m ∧ b = .int .i64 k ∧ a = .int .i64 (d - 1 + ysI v + aheadM v k) ∧ wr = w) (fun _ b _ => (m - intOf b).toNat)
      case atStart => exact ⟨1, by omega, by omega, rfl, vint (by rw [show aheadM v 1 = 0 by simp [aheadM]]; omega), rfl⟩
      case round =>
        obtain ⟨k, hk1, hk2, rfl, rfl, hw2⟩ := hrel
        have ha := ahead_bd v hk1 (by omega)
        have hl := lp_bd v
        unfold daysY at ha
        have hb2 := len_bd v k
        by_cases hlt : k < m
        · have hsu := ahead_succ v hk1 (by omega)
          go_wp2_with fail
          refine (mlength_any h1 h2 _).mono ?_
          rintro e w2 ⟨rfl, rfl⟩
          go_wp2_with fail
          go_roundw
          case rel => exact ⟨k + 1, by omega, by omega, rfl, vint (by omega), trivial⟩
          case measure => simp [intOf]; omega
        · have hkm : k = m := by omega
          subst hkm
          go_wp2_with fail
          go_ret2
          exact ⟨ret_t2 (by rw [H7.out]; omega) rfl, by first | rfl | assumption | (simp [*])⟩
end
section
open Go.RowKit
set_option maxHeartbeats 2000000

theorem rfrom_out {y m d : Int} (h : ¬dateR y m d) (w : World) :
    Calls Tryz.prog 123 #[.int .i64 y, .int .i64 m, .int .i64 d] w (RetW (.tuple #[.int .i64 0, .int .i64 51]) w) := by
  unfold dateR at h
  by_cases hm : monthR y m
  · obtain ⟨h1, h2, h3, h4⟩ := hm
    by_cases hd : d < 1
    · go_enter Tryz.func123, Tryz.ntmps123
      go_wp2_with fail
      refine (rlength_in h1 h2 h3 h4 _).mono ?_
      rintro e w1 ⟨rfl, rfl⟩
      go_wp2_with fail
      go_ret2
      exact ⟨rfl, rfl⟩
    · have hd2 : lenM y m < d := by
        rcases Int.lt_or_le (lenM y m) d with hx | hx
        · exact hx
        · exact absurd ⟨⟨h1, h2, h3, h4⟩, by omega, hx⟩ h
      go_enter Tryz.func123, Tryz.ntmps123
      go_wp2_with fail
      refine (rlength_in h1 h2 h3 h4 _).mono ?_
      rintro e w1 ⟨rfl, rfl⟩
      go_wp2_with fail
      go_ret2
      exact ⟨rfl, rfl⟩
  · go_enter Tryz.func123, Tryz.ntmps123
    go_wp2_with fail
    refine (rlength_out hm _).mono ?_
    rintro e w1 ⟨rfl, rfl⟩
    go_wp2_with fail
    go_ret2
    exact ⟨rfl, rfl⟩
theorem results_tmp4 {fn : Func} {t u v x : Tmp} (h : fn.results = #[.tmp t, .tmp u, .tmp v, .tmp x]) (tmps : Array Value) (P : Program) (w : World) :
    (results fn tmps).run P w = .ok (.tuple #[tmps.getD t undef, tmps.getD u undef, tmps.getD v undef, tmps.getD x undef]) w := by
  simp [results, h]
theorem ret_t4 {k k' k2 k3 : IntKind} {a b c d a' b' c' d' : Int} (h : a = a') (h' : b = b') (h2 : c = c') (h3 : d = d') : Ending.returned (.tuple #[.int k a, .int k' b, .int k2 c, .int k3 d]) = .returned (.tuple #[.int k a', .int k' b', .int k2 c', .int k3 d']) := by rw [h, h', h2, h3]
theorem ys_up (y : Int) (h : 2000 ≤ y) : ysI y ≤ 366 * (y - 2000) := by
  unfold ysI
  split <;> omega
theorem dcivil_in {n y m d : Int} (h : CV n y m d) (w : World) :
    Calls Tryz.prog 190 #[.int .i64 n] w (RetW (.tuple #[.int .i64 y, .int .i64 m, .int .i64 d, .int .i64 0]) w) := by
  obtain ⟨hn1, hn2⟩ := h.bd
  obtain ⟨hy1, hy2⟩ := h.year
  obtain ⟨h1, h2, h3, h4, h5, h6, h7⟩ := h
  have hup := ys_up (y + 1) (by omega)
  have hg0 := month_guess y (n - ysI y) m h3 h4 (by omega) (by omega)
  have ha := ahead_bd y h3 h4
  have hl := lp_bd y
  unfold daysY at ha
  have hy0 := ys_mono h1
  rw [show ysI 2000 = 0 by decide] at hy0
  have H7 := Lib.hid h7
  have HG := Lib.hid hg0
  clear h7 hg0
  go_enter Tryz.func190, Tryz.ntmps190
  go_wp2_with fail
  refine (valid_is (b := true) (by simp; omega) _).mono ?_
  rintro e w1 ⟨rfl, rfl⟩
  go_wp2_with fail
  go_loopw [2] (fun a wr => ∃ v : Int, 2000 ≤ v ∧ v ≤ y ∧ a = .int .i64 v ∧ wr = w) (fun a _ => (y - intOf a).toNat)
  case atStart => exact ⟨2000 + n / 366, by omega, by omega, rfl, rfl⟩
  case round =>
    obtain ⟨v, hv1, hv2, rfl, hw⟩ := hrel
    by_cases hlt : v < y
    · have hle : ysI (v + 1) ≤ n := by have := ys_mono (show v + 1 ≤ y by omega); omega
      go_wp2_with fail
      refine (ystart_any (by omega) (by omega) _).mono ?_
      rintro e w2 ⟨rfl, rfl⟩
      go_wp2_with fail
      go_roundw
      case rel => exact ⟨v + 1, by omega, by omega, rfl, trivial⟩
      case measure => simp [intOf]; omega
    · have hvy : v = y := by omega
      subst hvy
      go_wp2_with fail
      refine (ystart_any (by omega) (by omega) _).mono ?_
      rintro e w2 ⟨rfl, rfl⟩
      go_wp2_with fail
      refine (ystart_any (by omega) (by omega) _).mono ?_
      rintro e w2 ⟨rfl, rfl⟩
      have hq0 : 0 ≤ n - ysI v := by omega
      have hq1 : n - ysI v ≤ 366 := by have := H7.out; omega
      rcases HG.out with ⟨hg, hm12 | hlt2⟩ | ⟨hg, hm2⟩
      · subst hm12
        go_wp2_with fail
        refine (dahead_any h1 h2 (by omega) (by omega) _).mono ?_
        rintro e w2 ⟨rfl, rfl⟩
        go_wp2_with fail
        (try simp only [Exit.inBlock, Exit.then])
        refine bodyPost_ret (results_tmp4 rfl _ _ _) rfl ?_
        exact ⟨ret_t4 rfl (by omega) (by have := H7.out; omega) rfl, by first | rfl | assumption | (simp [*])⟩
      · have hm12 : m < 12 ∨ m = 12 := by omega
        rcases hm12 with hm12 | rfl
        · go_wp2_with fail
          refine (dahead_any h1 h2 (by omega) (by omega) _).mono ?_
          rintro e w2 ⟨rfl, rfl⟩
          go_wp2_with fail
          refine (dahead_any h1 h2 (by omega) (by omega) _).mono ?_
          rintro e w2 ⟨rfl, rfl⟩
          go_wp2_with fail
          (try simp only [Exit.inBlock, Exit.then])
          refine bodyPost_ret (results_tmp4 rfl _ _ _) rfl ?_
          exact ⟨ret_t4 rfl (by omega) (by have := H7.out; omega) rfl, by first | rfl | assumption | (simp [*])⟩
        · go_wp2_with fail
          refine (dahead_any h1 h2 (by omega) (by omega) _).mono ?_
          rintro e w2 ⟨rfl, rfl⟩
          go_wp2_with fail
          (try simp only [Exit.inBlock, Exit.then])
          refine bodyPost_ret (results_tmp4 rfl _ _ _) rfl ?_
          exact ⟨ret_t4 rfl (by omega) (by have := H7.out; omega) rfl, by first | rfl | assumption | (simp [*])⟩
      · have hle : aheadM v m ≤ n - ysI v := by have := H7.out; omega
        have hg2 : m - 1 + 1 = m := by omega
        go_wp2_with fail
        refine (dahead_any h1 h2 (by omega) (by omega) _).mono ?_
        rintro e w2 ⟨rfl, rfl⟩
        go_wp2_with fail
        refine (dahead_any h1 h2 (by omega) (by omega) _).mono ?_
        rintro e w2 ⟨rfl, rfl⟩
        go_wp2_with fail
        (try simp only [Exit.inBlock, Exit.then])
        refine bodyPost_ret (results_tmp4 rfl _ _ _) rfl ?_
        exact ⟨ret_t4 rfl (by omega) (by have := H7.out; omega) rfl, by first | rfl | assumption | (simp [*])⟩
end
section
open Go.RowKit
set_option maxHeartbeats 2000000

theorem rcivil_in {n y m d : Int} (h : CV n y m d) (w : World) :
    Calls Tryz.prog 122 #[.int .i64 n] w (RetW (.tuple #[.int .i64 y, .int .i64 m, .int .i64 d, .int .i64 0]) w) := by
  obtain ⟨hn1, hn2⟩ := h.bd
  obtain ⟨hy1, hy2⟩ := h.year
  obtain ⟨h1, h2, h3, h4, h5, h6, h7⟩ := h
  have hs := ys_succ y h1
  have H7 := Lib.hid h7
  have HS := Lib.hid hs
  clear h7 hs
  go_enter Tryz.func122, Tryz.ntmps122
  go_wp2_with fail
  refine (dout_is (b := true) (by simp; omega) _).mono ?_
  rintro e w1 ⟨rfl, rfl⟩
  go_wp2_with fail
  go_loopw [0, 2] (fun q a wr => ∃ v : Int, 2000 ≤ v ∧ v ≤ y ∧ q = .int .i64 (n - ysI v) ∧ a = .int .i64 v ∧ wr = w) (fun _ a _ => (y - intOf a).toNat)
  case atStart => exact ⟨2000, by omega, by omega, vint (by rw [show ysI 2000 = 0 by decide]; omega), rfl, rfl⟩
  case round =>
    obtain ⟨v, hv1, hv2, rfl, rfl, hw⟩ := hrel
    have hl := lp_bd v
    have hyv := ys_mono hv1
    rw [show ysI 2000 = 0 by decide] at hyv
    have hyw := ys_mono (show v ≤ 2200 by omega)
    rw [show ysI 2200 = 73049 by decide] at hyw
    by_cases hlt : v < y
    · have hle : ysI (v + 1) ≤ n := by have := ys_mono (show v + 1 ≤ y by omega); omega
      have hsv := ys_succ v hv1
      unfold daysY at hsv
      have hd : 365 + lp v ≤ n - ysI v := by omega
      have hn : n - ysI v - (365 + lp v) = n - ysI (v + 1) := by omega
      have HN := Lib.hid hn
      clear hsv hn
      go_wp2_with fail
      refine (days_any (by omega) (by omega) _).mono ?_
      rintro e w2 ⟨rfl, rfl⟩
      unfold daysY
      go_wp2_with fail
      refine (days_any (by omega) (by omega) _).mono ?_
      rintro e w2 ⟨rfl, rfl⟩
      unfold daysY
      go_wp2_with fail
      go_roundw
      case rel => exact ⟨v + 1, by omega, by omega, vint HN.out, rfl, trivial⟩
      case measure => simp [intOf]; omega
    · have hvy : v = y := by omega
      subst hvy
      have hd : n - ysI v < 365 + lp v := by have := HS.out; unfold daysY at this; omega
      go_wp2_with fail
      refine (days_any (by omega) (by omega) _).mono ?_
      rintro e w2 ⟨rfl, rfl⟩
      unfold daysY
      go_wp2_with fail
      go_loopw [0, 3] (fun q a wr => ∃ k : Int, 1 ≤ k ∧ k ≤ m ∧ q = .int .i64 (n - ysI v - aheadM v k) ∧ a = .int .i64 k ∧ wr = w) (fun _ a _ => (m - intOf a).toNat)
      case atStart => exact ⟨1, by omega, by omega, vint (by rw [show aheadM v 1 = 0 by simp [aheadM]]; omega), rfl, by first | exact hw | rfl⟩
      case round =>
        obtain ⟨k, hk1, hk2, rfl, rfl, hw2⟩ := hrel
        have ha := ahead_bd v hk1 (by omega)
        unfold daysY at ha
        have hb2 := len_bd v k
        by_cases hlt : k < m
        · have hmm := ahead_mono v hk1 hlt h4
          have hsu := ahead_succ v hk1 (by omega)
          have hd : lenM v k ≤ n - ysI v - aheadM v k := by have := H7.out; omega
          have hn : n - ysI v - aheadM v k - lenM v k = n - ysI v - aheadM v (k + 1) := by omega
          have HN := Lib.hid hn
          clear hsu hn
          go_wp2_with fail
          refine (mlength_any h1 h2 _).mono ?_
          rintro e w2 ⟨rfl, rfl⟩
          go_wp2_with fail
          refine (mlength_any h1 h2 _).mono ?_
          rintro e w2 ⟨rfl, rfl⟩
          go_wp2_with fail
          go_roundw
          case rel => exact ⟨k + 1, by omega, by omega, vint HN.out, rfl, trivial⟩
          case measure => simp [intOf]; omega
        · have hkm : k = m := by omega
          subst hkm
          have hd : n - ysI v - aheadM v k < lenM v k := by have := H7.out; omega
          have hd0 : 0 ≤ n - ysI v - aheadM v k := by have := H7.out; omega
          go_wp2_with fail
          refine (mlength_any h1 h2 _).mono ?_
          rintro e w2 ⟨rfl, rfl⟩
          go_wp2_with fail
          (try simp only [Exit.inBlock, Exit.then])
          refine bodyPost_ret (results_tmp4 rfl _ _ _) rfl ?_
          exact ⟨ret_t4 rfl rfl (by have := H7.out; omega) rfl, by first | rfl | assumption | (simp [*])⟩
theorem dcivil_out {n : Int} (h : ¬(0 ≤ n ∧ n ≤ 73048)) (w : World) :
    Calls Tryz.prog 190 #[.int .i64 n] w (RetW (.tuple #[.int .i64 0, .int .i64 0, .int .i64 0, .int .i64 50]) w) := by
  go_enter Tryz.func190, Tryz.ntmps190
  go_wp2_with fail
  refine (valid_is (b := false) (by simp; omega) _).mono ?_
  rintro e w1 ⟨rfl, rfl⟩
  go_wp2_with fail
  (try simp only [Exit.inBlock, Exit.then])
  refine bodyPost_ret (results_tmp4 rfl _ _ _) rfl ?_
  exact ⟨rfl, rfl⟩
theorem rcivil_out {n : Int} (h : ¬(0 ≤ n ∧ n ≤ 73048)) (w : World) :
    Calls Tryz.prog 122 #[.int .i64 n] w (RetW (.tuple #[.int .i64 0, .int .i64 0, .int .i64 0, .int .i64 50]) w) := by
  go_enter Tryz.func122, Tryz.ntmps122
  go_wp2_with fail
  refine (dout_is (b := false) (by simp; omega) _).mono ?_
  rintro e w1 ⟨rfl, rfl⟩
  go_wp2_with fail
  (try simp only [Exit.inBlock, Exit.then])
  refine bodyPost_ret (results_tmp4 rfl _ _ _) rfl ?_
  exact ⟨rfl, rfl⟩
end
section
open Go.RowKit
set_option maxHeartbeats 2000000

theorem dweek_in {n : Int} (h1 : 0 ≤ n) (h2 : n ≤ 73048) (w : World) : Calls Tryz.prog 186 #[.int .i64 n] w (RetW (.tuple #[.int .i64 ((n + 5) % 7), .int .i64 0]) w) := by
  go_enter Tryz.func186, Tryz.ntmps186
  go_wp2_with fail
  refine (valid_is (b := true) (by simp; omega) _).mono ?_
  rintro e w1 ⟨rfl, rfl⟩
  go_wp2_with fail
  go_ret2
  exact ⟨rfl, rfl⟩
theorem dweek_out {n : Int} (h : ¬(0 ≤ n ∧ n ≤ 73048)) (w : World) : Calls Tryz.prog 186 #[.int .i64 n] w (RetW (.tuple #[.int .i64 0, .int .i64 50]) w) := by
  go_enter Tryz.func186, Tryz.ntmps186
  go_wp2_with fail
  refine (valid_is (b := false) (by simp; omega) _).mono ?_
  rintro e w1 ⟨rfl, rfl⟩
  go_wp2_with fail
  go_ret2
  exact ⟨rfl, rfl⟩
theorem rweek_in {n : Int} (h1 : 0 ≤ n) (h2 : n ≤ 73048) (w : World) : Calls Tryz.prog 121 #[.int .i64 n] w (RetW (.tuple #[.int .i64 ((n + 5) % 7), .int .i64 0]) w) := by
  go_enter Tryz.func121, Tryz.ntmps121
  go_wp2_with fail
  refine (dout_is (b := true) (by simp; omega) _).mono ?_
  rintro e w1 ⟨rfl, rfl⟩
  go_wp2_with fail
  go_ret2
  exact ⟨rfl, rfl⟩
theorem rweek_out {n : Int} (h : ¬(0 ≤ n ∧ n ≤ 73048)) (w : World) : Calls Tryz.prog 121 #[.int .i64 n] w (RetW (.tuple #[.int .i64 0, .int .i64 50]) w) := by
  go_enter Tryz.func121, Tryz.ntmps121
  go_wp2_with fail
  refine (dout_is (b := false) (by simp; omega) _).mono ?_
  rintro e w1 ⟨rfl, rfl⟩
  go_wp2_with fail
  go_ret2
  exact ⟨rfl, rfl⟩

theorem CV.last {n y m d : Int} (h : CV n y m d) : CV (n + lenM y m - d) y m (lenM y m) :=
  ⟨h.y1, h.y2, h.m1, h.m2, by have := len_bd y m; omega, by omega, by have := h.eq; omega⟩
theorem dend_in {n y m d : Int} (h : CV n y m d) (w : World) : Calls Tryz.prog 191 #[.int .i64 n] w (RetW (.tuple #[.int .i64 (n + lenM y m - d), .int .i64 0]) w) := by
  obtain ⟨hn1, hn2⟩ := h.bd
  have hb := len_bd y m
  have hd1 := h.d1
  have hd2 := h.d2
  have H := Lib.hid h
  clear h
  go_enter Tryz.func191, Tryz.ntmps191
  go_wp2_with fail
  refine (dcivil_in H.out _).mono ?_
  rintro e w1 ⟨rfl, rfl⟩
  go_wp2_with fail
  refine (dlength_in H.out.y1 H.out.y2 H.out.m1 H.out.m2 _).mono ?_
  rintro e w1 ⟨rfl, rfl⟩
  go_wp2_with fail
  go_ret2
  exact ⟨rfl, rfl⟩
theorem dend_out {n : Int} (h : ¬(0 ≤ n ∧ n ≤ 73048)) (w : World) : Calls Tryz.prog 191 #[.int .i64 n] w (RetW (.tuple #[.int .i64 0, .int .i64 50]) w) := by
  go_enter Tryz.func191, Tryz.ntmps191
  go_wp2_with fail
  refine (dcivil_out h _).mono ?_
  rintro e w1 ⟨rfl, rfl⟩
  go_wp2_with fail
  go_ret2
  exact ⟨rfl, rfl⟩
theorem rend_in {n y m d : Int} (h : CV n y m d) (w : World) : Calls Tryz.prog 124 #[.int .i64 n] w (RetW (.tuple #[.int .i64 (n + lenM y m - d), .int .i64 0]) w) := by
  have H := Lib.hid h
  clear h
  go_enter Tryz.func124, Tryz.ntmps124
  go_wp2_with fail
  refine (rcivil_in H.out _).mono ?_
  rintro e w1 ⟨rfl, rfl⟩
  go_wp2_with fail
  refine (mlength_any H.out.y1 H.out.y2 _).mono ?_
  rintro e w1 ⟨rfl, rfl⟩
  go_wp2_with fail
  refine (rfrom_in H.out.last _).mono ?_
  rintro e w1 ⟨rfl, rfl⟩
  go_wp2_with fail
  go_ret2
  exact ⟨rfl, rfl⟩
theorem rend_out {n : Int} (h : ¬(0 ≤ n ∧ n ≤ 73048)) (w : World) : Calls Tryz.prog 124 #[.int .i64 n] w (RetW (.tuple #[.int .i64 0, .int .i64 50]) w) := by
  go_enter Tryz.func124, Tryz.ntmps124
  go_wp2_with fail
  refine (rcivil_out h _).mono ?_
  rintro e w1 ⟨rfl, rfl⟩
  go_wp2_with fail
  go_ret2
  exact ⟨rfl, rfl⟩
end
section
open Go.RowKit
set_option maxHeartbeats 2000000

/-- So many months may be added. -/
def addR (y m a : Int) : Prop := -2400 ≤ a ∧ a ≤ 2400 ∧ 0 ≤ 12 * (y - 2000) + m - 1 + a ∧ 12 * (y - 2000) + m - 1 + a < 2400
end
end Go.Proofs.YtffmmkjoknghoaaGreat
