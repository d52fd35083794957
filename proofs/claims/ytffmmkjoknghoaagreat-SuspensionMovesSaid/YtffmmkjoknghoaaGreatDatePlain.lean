/-
  Dates in plain words: leap years, lengths of months, the number of a date.
-/
import Derived.Test.YtffmmkjoknghoaaGreatBase
namespace Go.Proofs.YtffmmkjoknghoaaGreat
open Go.RowKit

/-- 1 in a leap year of 2000 to 2199, else 0. -/
def lp (y : Int) : Int := if y % 4 = 0 ∧ y ≠ 2100 then 1 else 0
def daysY (y : Int) : Int := 365 + lp y
def lenM (y m : Int) : Int := if m = 2 then 28 + lp y else if m = 4 ∨ m = 6 ∨ m = 9 ∨ m = 11 then 30 else 31
def aheadM (y m : Int) : Int :=
  if m = 1 then 0 else if m = 2 then 31 else
  (if m = 3 then 59 else if m = 4 then 90 else if m = 5 then 120 else if m = 6 then 151 else if m = 7 then 181 else if m = 8 then 212 else
   if m = 9 then 243 else if m = 10 then 273 else if m = 11 then 304 else 334) + lp y
def ysI (y : Int) : Int := 365 * (y - 2000) + (y - 2000 + 3) / 4 - if y > 2100 then 1 else 0
theorem lp_bd (y : Int) : 0 ≤ lp y ∧ lp y ≤ 1 := by unfold lp; split <;> omega
theorem ys_succ (y : Int) (h : 2000 ≤ y) : ysI (y + 1) = ysI y + daysY y := by
  unfold ysI daysY lp
  split <;> split <;> split <;> omega
theorem ys_mono {a b : Int} (h : a ≤ b) : ysI a ≤ ysI b := by
  unfold ysI
  split <;> split <;> omega
theorem ys_lt {a b : Int} (h : a < b) : ysI a + 365 ≤ ysI b := by
  unfold ysI
  split <;> split <;> omega
theorem m12 {m : Int} (h1 : 1 ≤ m) (h2 : m ≤ 12) : m = 1 ∨ m = 2 ∨ m = 3 ∨ m = 4 ∨ m = 5 ∨ m = 6 ∨ m = 7 ∨ m = 8 ∨ m = 9 ∨ m = 10 ∨ m = 11 ∨ m = 12 := by omega
theorem ahead_succ (y : Int) {m : Int} (h1 : 1 ≤ m) (h2 : m < 12) : aheadM y (m + 1) = aheadM y m + lenM y m := by
  rcases m12 h1 (by omega) with rfl | rfl | rfl | rfl | rfl | rfl | rfl | rfl | rfl | rfl | rfl | rfl <;> simp [aheadM, lenM] <;> omega
theorem ahead_end (y : Int) : aheadM y 12 + 31 = daysY y := by simp [aheadM, daysY]; omega
theorem len_bd (y : Int) (m : Int) : 28 ≤ lenM y m ∧ lenM y m ≤ 31 := by
  have := lp_bd y
  unfold lenM
  split
  · omega
  · split <;> omega
theorem ahead_bd (y : Int) {m : Int} (h1 : 1 ≤ m) (h2 : m ≤ 12) : 0 ≤ aheadM y m ∧ aheadM y m + lenM y m ≤ daysY y := by
  have := lp_bd y
  rcases m12 h1 h2 with rfl | rfl | rfl | rfl | rfl | rfl | rfl | rfl | rfl | rfl | rfl | rfl <;> simp [aheadM, lenM, daysY] <;> omega
theorem ahead_mono (y : Int) {a b : Int} (h1 : 1 ≤ a) (h : a < b) (h2 : b ≤ 12) : aheadM y a + lenM y a ≤ aheadM y b := by
  have := lp_bd y
  rcases m12 h1 (by omega) with rfl | rfl | rfl | rfl | rfl | rfl | rfl | rfl | rfl | rfl | rfl | rfl <;>
    rcases m12 (m := b) (by omega) h2 with rfl | rfl | rfl | rfl | rfl | rfl | rfl | rfl | rfl | rfl | rfl | rfl <;> first | omega | (simp [aheadM, lenM] <;> omega)

/-- The date y-m-d is that of day n. -/
structure CV (n y m d : Int) : Prop where
  y1 : 2000 ≤ y
  y2 : y ≤ 2199
  m1 : 1 ≤ m
  m2 : m ≤ 12
  d1 : 1 ≤ d
  d2 : d ≤ lenM y m
  eq : n = ysI y + aheadM y m + d - 1
theorem CV.year {n y m d : Int} (h : CV n y m d) : ysI y ≤ n ∧ n < ysI (y + 1) := by
  have h1 := ys_succ y h.y1
  have h2 := ahead_bd y h.m1 h.m2
  have := h.eq; have := h.d1; have := h.d2
  omega
theorem CV.bd {n y m d : Int} (h : CV n y m d) : 0 ≤ n ∧ n ≤ 73048 := by
  obtain ⟨h1, h2⟩ := h.year
  have h3 := ys_mono h.y1
  have h4 := ys_mono (show y + 1 ≤ 2200 by have := h.y2; omega)
  have e1 : ysI 2000 = 0 := by decide
  have e2 : ysI 2200 = 73049 := by decide
  omega
theorem cv_year (n : Int) (h1 : 0 ≤ n) (h2 : n ≤ 73048) : ∃ y, 2000 ≤ y ∧ y ≤ 2199 ∧ ysI y ≤ n ∧ n < ysI (y + 1) := by
  have : ∀ k : Nat, n < ysI (2000 + k) → ∃ y : Int, 2000 ≤ y ∧ y < 2000 + k ∧ ysI y ≤ n ∧ n < ysI (y + 1) := by
    intro k
    induction k with
    | zero => intro h; have : ysI 2000 = 0 := by decide
              simp at h; omega
    | succ k ih =>
      intro h
      by_cases hk : n < ysI (2000 + k)
      · obtain ⟨y, a, b, c, d⟩ := ih hk
        exact ⟨y, a, by omega, c, d⟩
      · exact ⟨2000 + k, by omega, by omega, by omega, by rw [show (2000 : Int) + k + 1 = 2000 + (k + 1 : Nat) by omega]; exact h⟩
  obtain ⟨y, a, b, c, d⟩ := this 200 (by have : ysI 2200 = 73049 := by decide
                                         simp; omega)
  exact ⟨y, a, by omega, c, d⟩
theorem cv_month (y q : Int) (h1 : 0 ≤ q) (h2 : q < daysY y) : ∃ m, 1 ≤ m ∧ m ≤ 12 ∧ aheadM y m ≤ q ∧ q < aheadM y m + lenM y m := by
  have hl := lp_bd y
  have e : ∀ m, aheadM y m = aheadM y m := fun _ => rfl
  unfold daysY at h2
  by_cases a1 : q < 31; exact ⟨1, by omega, by omega, by simp [aheadM]; omega, by simp [aheadM, lenM]; omega⟩
  by_cases a2 : q < 59 + lp y; exact ⟨2, by omega, by omega, by simp [aheadM]; omega, by simp [aheadM, lenM]; omega⟩
  by_cases a3 : q < 90 + lp y; exact ⟨3, by omega, by omega, by simp [aheadM]; omega, by simp [aheadM, lenM]; omega⟩
  by_cases a4 : q < 120 + lp y; exact ⟨4, by omega, by omega, by simp [aheadM]; omega, by simp [aheadM, lenM]; omega⟩
  by_cases a5 : q < 151 + lp y; exact ⟨5, by omega, by omega, by simp [aheadM]; omega, by simp [aheadM, lenM]; omega⟩
  by_cases a6 : q < 181 + lp y; exact ⟨6, by omega, by omega, by simp [aheadM]; omega, by simp [aheadM, lenM]; omega⟩
  by_cases a7 : q < 212 + lp y; exact ⟨7, by omega, by omega, by simp [aheadM]; omega, by simp [aheadM, lenM]; omega⟩
  by_cases a8 : q < 243 + lp y; exact ⟨8, by omega, by omega, by simp [aheadM]; omega, by simp [aheadM, lenM]; omega⟩
  by_cases a9 : q < 273 + lp y; exact ⟨9, by omega, by omega, by simp [aheadM]; omega, by simp [aheadM, lenM]; omega⟩
  by_cases a10 : q < 304 + lp y; exact ⟨10, by omega, by omega, by simp [aheadM]; omega, by simp [aheadM, lenM]; omega⟩
  by_cases a11 : q < 334 + lp y; exact ⟨11, by omega, by omega, by simp [aheadM]; omega, by simp [aheadM, lenM]; omega⟩
  exact ⟨12, by omega, by omega, by simp [aheadM]; omega, by simp [aheadM, lenM]; omega⟩
/-- Each day has its date. -/
theorem cv_any (n : Int) (h1 : 0 ≤ n) (h2 : n ≤ 73048) : ∃ y m d, CV n y m d := by
  obtain ⟨y, a, b, c, d⟩ := cv_year n h1 h2
  rw [ys_succ y a] at d
  obtain ⟨m, m1, m2, m3, m4⟩ := cv_month y (n - ysI y) (by omega) (by omega)
  exact ⟨y, m, n - ysI y - aheadM y m + 1, a, b, m1, m2, by omega, by omega, by omega⟩
/-- A day has one date. -/
theorem CV.uniq {n y m d y' m' d' : Int} (h : CV n y m d) (h' : CV n y' m' d') : y = y' ∧ m = m' ∧ d = d' := by
  have e : y = y' := by
    obtain ⟨a1, a2⟩ := h.year
    obtain ⟨b1, b2⟩ := h'.year
    rcases Int.lt_trichotomy y y' with hl | hl | hl
    · have := ys_mono (show y + 1 ≤ y' by omega); omega
    · exact hl
    · have := ys_mono (show y' + 1 ≤ y by omega); omega
  subst e
  have a1 := h.eq; have b1 := h'.eq
  have a2 := h.d1; have b2 := h'.d1; have a3 := h.d2; have b3 := h'.d2
  have e : m = m' := by
    rcases Int.lt_trichotomy m m' with hl | hl | hl
    · have := ahead_mono y h.m1 hl h'.m2; omega
    · exact hl
    · have := ahead_mono y h'.m1 hl h.m2; omega
  subst e
  exact ⟨rfl, rfl, by omega⟩
/-- The first guess of the month is right, or one too low. -/
theorem month_guess (y q m : Int) (h1 : 1 ≤ m) (h2 : m ≤ 12) (h3 : aheadM y m ≤ q) (h4 : q < aheadM y m + lenM y m) :
    (1 + q / 31 = m ∧ (m = 12 ∨ q < aheadM y (m + 1))) ∨ (1 + q / 31 = m - 1 ∧ 2 ≤ m) := by
  have hl := lp_bd y
  rcases m12 h1 h2 with rfl | rfl | rfl | rfl | rfl | rfl | rfl | rfl | rfl | rfl | rfl | rfl <;> simp [aheadM, lenM] at h3 h4 ⊢ <;> omega
end Go.Proofs.YtffmmkjoknghoaaGreat
