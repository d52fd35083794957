/-
  The walks of dates: months added.
-/
import Derived.Test.YtmjegmlchonlmaaDateWalkF
namespace Go.Proofs.Ytmjegmlchonlmaa
open Go.RowKit
set_option maxHeartbeats 2000000

theorem dadd_in {n y m d a n' d' : Int} (h : CV n y m d) (ha1 : -2400 ≤ a) (ha2 : a ≤ 2400) (hk0 : 0 ≤ 12 * (y - 2000) + m - 1 + a) (hk1 : 12 * (y - 2000) + m - 1 + a < 2400)
    (hd : d' = min d (lenM (2000 + (12 * (y - 2000) + m - 1 + a) / 12) ((12 * (y - 2000) + m - 1 + a) % 12 + 1)))
    (h' : CV n' (2000 + (12 * (y - 2000) + m - 1 + a) / 12) ((12 * (y - 2000) + m - 1 + a) % 12 + 1) d') (w : World) :
    Calls Try.prog 50 #[.int .i64 n, .int .i64 a] w (RetW (.tuple #[.int .i64 n', .int .i64 0]) w) := by
  have hy1 := h.y1
  have hy2 := h.y2
  have hm1 := h.m1
  have hm2 := h.m2
  have hd1 := h.d1
  have hd2 := h.d2
  have hb0 := len_bd y m
  have hb := len_bd (2000 + (12 * (y - 2000) + m - 1 + a) / 12) ((12 * (y - 2000) + m - 1 + a) % 12 + 1)
  have H := Lib.hid h
  have H' := Lib.hid h'
  have HD := Lib.hid hd
  clear h h' hd
  by_cases hl : d ≤ lenM (2000 + (12 * (y - 2000) + m - 1 + a) / 12) ((12 * (y - 2000) + m - 1 + a) % 12 + 1)
  · have e : d' = d := by have := HD.out; omega
    subst e
    go_enter Try.func50, Try.ntmps50
    go_wp2_with fail
    refine (dcivil_in H.out _).mono ?_
    rintro e w1 ⟨rfl, rfl⟩
    go_wp2_with fail
    refine (dlength_in (by omega) (by omega) (by omega) (by omega) _).mono ?_
    rintro e w1 ⟨rfl, rfl⟩
    go_wp2_with fail
    refine (dfrom_in H'.out _).mono ?_
    rintro e w1 ⟨rfl, rfl⟩
    go_wp2_with fail
    go_ret2
    exact ⟨rfl, rfl⟩
  · have e : d' = lenM (2000 + (12 * (y - 2000) + m - 1 + a) / 12) ((12 * (y - 2000) + m - 1 + a) % 12 + 1) := by have := HD.out; omega
    subst e
    go_enter Try.func50, Try.ntmps50
    go_wp2_with fail
    refine (dcivil_in H.out _).mono ?_
    rintro e w1 ⟨rfl, rfl⟩
    go_wp2_with fail
    refine (dlength_in (by omega) (by omega) (by omega) (by omega) _).mono ?_
    rintro e w1 ⟨rfl, rfl⟩
    go_wp2_with fail
    refine (dfrom_in H'.out _).mono ?_
    rintro e w1 ⟨rfl, rfl⟩
    go_wp2_with fail
    go_ret2
    exact ⟨rfl, rfl⟩
theorem radd_in {n y m d a n' d' : Int} (h : CV n y m d) (ha1 : -2400 ≤ a) (ha2 : a ≤ 2400) (hk0 : 0 ≤ 12 * (y - 2000) + m - 1 + a) (hk1 : 12 * (y - 2000) + m - 1 + a < 2400)
    (hd : d' = min d (lenM (2000 + (12 * (y - 2000) + m - 1 + a) / 12) ((12 * (y - 2000) + m - 1 + a) % 12 + 1)))
    (h' : CV n' (2000 + (12 * (y - 2000) + m - 1 + a) / 12) ((12 * (y - 2000) + m - 1 + a) % 12 + 1) d') (w : World) :
    Calls Try.prog 59 #[.int .i64 n, .int .i64 a] w (RetW (.tuple #[.int .i64 n', .int .i64 0]) w) := by
  have hy1 := h.y1
  have hy2 := h.y2
  have hm1 := h.m1
  have hm2 := h.m2
  have hd1 := h.d1
  have hd2 := h.d2
  have hb0 := len_bd y m
  have hb := len_bd (2000 + (12 * (y - 2000) + m - 1 + a) / 12) ((12 * (y - 2000) + m - 1 + a) % 12 + 1)
  have H := Lib.hid h
  have H' := Lib.hid h'
  have HD := Lib.hid hd
  clear h h' hd
  by_cases hl : d ≤ lenM (2000 + (12 * (y - 2000) + m - 1 + a) / 12) ((12 * (y - 2000) + m - 1 + a) % 12 + 1)
  · have e : d' = d := by have := HD.out; omega
    subst e
    go_enter Try.func59, Try.ntmps59
    go_wp2_with fail
    refine (rcivil_in H.out _).mono ?_
    rintro e w1 ⟨rfl, rfl⟩
    go_wp2_with fail
    refine (mlength_any (by omega) (by omega) _).mono ?_
    rintro e w1 ⟨rfl, rfl⟩
    go_wp2_with fail
    refine (rfrom_in H'.out _).mono ?_
    rintro e w1 ⟨rfl, rfl⟩
    go_wp2_with fail
    go_ret2
    exact ⟨rfl, rfl⟩
  · have e : d' = lenM (2000 + (12 * (y - 2000) + m - 1 + a) / 12) ((12 * (y - 2000) + m - 1 + a) % 12 + 1) := by have := HD.out; omega
    subst e
    go_enter Try.func59, Try.ntmps59
    go_wp2_with fail
    refine (rcivil_in H.out _).mono ?_
    rintro e w1 ⟨rfl, rfl⟩
    go_wp2_with fail
    refine (mlength_any (by omega) (by omega) _).mono ?_
    rintro e w1 ⟨rfl, rfl⟩
    go_wp2_with fail
    refine (rfrom_in H'.out _).mono ?_
    rintro e w1 ⟨rfl, rfl⟩
    go_wp2_with fail
    go_ret2
    exact ⟨rfl, rfl⟩

theorem dadd_day {n a : Int} (h : ¬(0 ≤ n ∧ n ≤ 73048)) (w : World) : Calls Try.prog 50 #[.int .i64 n, .int .i64 a] w (RetW (.tuple #[.int .i64 0, .int .i64 50]) w) := by
  go_enter Try.func50, Try.ntmps50
  go_wp2_with fail
  refine (dcivil_out h _).mono ?_
  rintro e w1 ⟨rfl, rfl⟩
  go_wp2_with fail
  go_ret2
  exact ⟨rfl, rfl⟩
theorem radd_day {n a : Int} (h : ¬(0 ≤ n ∧ n ≤ 73048)) (w : World) : Calls Try.prog 59 #[.int .i64 n, .int .i64 a] w (RetW (.tuple #[.int .i64 0, .int .i64 50]) w) := by
  go_enter Try.func59, Try.ntmps59
  go_wp2_with fail
  refine (rcivil_out h _).mono ?_
  rintro e w1 ⟨rfl, rfl⟩
  go_wp2_with fail
  go_ret2
  exact ⟨rfl, rfl⟩
/-- So many months may be added. -/
def addR (y m a : Int) : Prop := -2400 ≤ a ∧ a ≤ 2400 ∧ 0 ≤ 12 * (y - 2000) + m - 1 + a ∧ 12 * (y - 2000) + m - 1 + a < 2400
theorem dadd_out {n y m d a : Int} (h : CV n y m d) (ha : ¬addR y m a) (w : World) : Calls Try.prog 50 #[.int .i64 n, .int .i64 a] w (RetW (.tuple #[.int .i64 0, .int .i64 51]) w) := by
  have hy1 := h.y1
  have hy2 := h.y2
  have hm1 := h.m1
  have hm2 := h.m2
  have H := Lib.hid h
  clear h
  unfold addR at ha
  by_cases a1 : a < -2400
  · go_enter Try.func50, Try.ntmps50
    go_wp2_with fail
    refine (dcivil_in H.out _).mono ?_
    rintro e w1 ⟨rfl, rfl⟩
    go_wp2_with fail
    go_ret2
    exact ⟨rfl, rfl⟩
  by_cases a2 : 2400 < a
  · go_enter Try.func50, Try.ntmps50
    go_wp2_with fail
    refine (dcivil_in H.out _).mono ?_
    rintro e w1 ⟨rfl, rfl⟩
    go_wp2_with fail
    go_ret2
    exact ⟨rfl, rfl⟩
  by_cases a3 : 12 * (y - 2000) + m - 1 + a < 0
  · go_enter Try.func50, Try.ntmps50
    go_wp2_with fail
    refine (dcivil_in H.out _).mono ?_
    rintro e w1 ⟨rfl, rfl⟩
    go_wp2_with fail
    go_ret2
    exact ⟨rfl, rfl⟩
  have a4 : 2400 ≤ 12 * (y - 2000) + m - 1 + a := by omega
  go_enter Try.func50, Try.ntmps50
  go_wp2_with fail
  refine (dcivil_in H.out _).mono ?_
  rintro e w1 ⟨rfl, rfl⟩
  go_wp2_with fail
  go_ret2
  exact ⟨rfl, rfl⟩
theorem radd_out {n y m d a : Int} (h : CV n y m d) (ha : ¬addR y m a) (w : World) : Calls Try.prog 59 #[.int .i64 n, .int .i64 a] w (RetW (.tuple #[.int .i64 0, .int .i64 51]) w) := by
  have hy1 := h.y1
  have hy2 := h.y2
  have hm1 := h.m1
  have hm2 := h.m2
  have H := Lib.hid h
  clear h
  unfold addR at ha
  by_cases a1 : a < -2400
  · go_enter Try.func59, Try.ntmps59
    go_wp2_with fail
    refine (rcivil_in H.out _).mono ?_
    rintro e w1 ⟨rfl, rfl⟩
    go_wp2_with fail
    go_ret2
    exact ⟨rfl, rfl⟩
  by_cases a2 : 2400 < a
  · go_enter Try.func59, Try.ntmps59
    go_wp2_with fail
    refine (rcivil_in H.out _).mono ?_
    rintro e w1 ⟨rfl, rfl⟩
    go_wp2_with fail
    go_ret2
    exact ⟨rfl, rfl⟩
  by_cases a3 : 12 * (y - 2000) + m - 1 + a < 0
  · go_enter Try.func59, Try.ntmps59
    go_wp2_with fail
    refine (rcivil_in H.out _).mono ?_
    rintro e w1 ⟨rfl, rfl⟩
    go_wp2_with fail
    go_ret2
    exact ⟨rfl, rfl⟩
  have a4 : 2400 ≤ 12 * (y - 2000) + m - 1 + a := by omega
  go_enter Try.func59, Try.ntmps59
  go_wp2_with fail
  refine (rcivil_in H.out _).mono ?_
  rintro e w1 ⟨rfl, rfl⟩
  go_wp2_with fail
  go_ret2
  exact ⟨rfl, rfl⟩
end Go.Proofs.Ytmjegmlchonlmaa
