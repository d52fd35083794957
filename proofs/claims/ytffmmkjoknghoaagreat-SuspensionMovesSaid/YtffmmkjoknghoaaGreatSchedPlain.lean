/-
  Schedules in plain words: which days deal, their deadlines.
-/
import Derived.Test.YtffmmkjoknghoaaGreatCalPlain
import Derived.Test.YtffmmkjoknghoaaGreatZonePlain
import Derived.Test.YtffmmkjoknghoaaGreatDatePlain
namespace Go.Proofs.YtffmmkjoknghoaaGreat
open Go.RowKit
set_option linter.unusedVariables false

structure SC where
  period : Int
  nth : Int
  notice : Int
  settle : Int
  cutoff : Int
def SC.cells (s : SC) : Array Value := #[.int .i64 s.period, .int .i64 s.nth, .int .i64 s.notice, .int .i64 s.settle, .int .i64 s.cutoff]
def ruleOk (p n : Int) : Bool := if p = 1 then decide (n = 0) else if p = 2 then decide (0 ≤ n ∧ n ≤ 6) else if p = 3 then decide (n ≠ 0 ∧ -23 ≤ n ∧ n ≤ 23) else false
def rangesOk (s : SC) : Bool := decide (0 ≤ s.notice ∧ s.notice ≤ 60 ∧ 0 ≤ s.settle ∧ s.settle ≤ 60 ∧ 0 ≤ s.cutoff ∧ s.cutoff ≤ 1439)
def SC.ok (s : SC) : Bool := rangesOk s && ruleOk s.period s.nth
def SC.err (s : SC) : Int := if s.ok = true then 0 else 90
theorem SC.err_of_ok {s : SC} (h : s.ok = true) : s.err = 0 := by simp [SC.err, h]
theorem SC.err_of_bad {s : SC} (h : s.ok = false) : s.err = 90 := by simp [SC.err, h]
theorem SC.ok_ranges {s : SC} (h : s.ok = true) : 0 ≤ s.notice ∧ s.notice ≤ 60 ∧ 0 ≤ s.settle ∧ s.settle ≤ 60 ∧ 0 ≤ s.cutoff ∧ s.cutoff ≤ 1439 := by
  unfold SC.ok rangesOk at h
  simp only [Bool.and_eq_true, decide_eq_true_eq] at h
  exact h.1
theorem SC.ok_rule {s : SC} (h : s.ok = true) : ruleOk s.period s.nth = true := by
  unfold SC.ok at h
  simp only [Bool.and_eq_true] at h
  exact h.2

/-- The date of a day, by search. -/
def yrF : Nat → Int → Int → Int
  | 0, y, _ => y
  | k + 1, y, n => if n < ysI (y + 1) then y else yrF k (y + 1) n
def civY (n : Int) : Int := yrF 200 2000 n
def moF (y q : Int) : Nat → Int → Int
  | 0, m => m
  | k + 1, m => if q < aheadM y m + lenM y m then m else moF y q k (m + 1)
def civM (n : Int) : Int := moF (civY n) (n - ysI (civY n)) 12 1
def civD (n : Int) : Int := n - ysI (civY n) - aheadM (civY n) (civM n) + 1
theorem yrF_eq {n y m d : Int} (h : CV n y m d) : ∀ (k : Nat) (y0 : Int), y0 ≤ y → y < y0 + k → yrF k y0 n = y
  | 0, y0, h1, h2 => by omega
  | k + 1, y0, h1, h2 => by
    unfold yrF
    by_cases e : y0 = y
    · subst e
      rw [if_pos h.year.2]
    · rw [if_neg (by
        have := ys_mono (show y0 + 1 ≤ y by omega)
        have := h.year.1
        omega)]
      exact yrF_eq h k (y0 + 1) (by omega) (by omega)
theorem moF_eq {n y m d : Int} (h : CV n y m d) : ∀ (k : Nat) (m0 : Int), 1 ≤ m0 → m0 ≤ m → m < m0 + k → moF y (n - ysI y) k m0 = m
  | 0, m0, _, h1, h2 => by omega
  | k + 1, m0, h0, h1, h2 => by
    have e1 := h.eq
    have e2 := h.d1
    have e3 := h.d2
    unfold moF
    by_cases e : m0 = m
    · subst e
      rw [if_pos (by omega)]
    · have := ahead_mono y h0 (show m0 < m by omega) h.m2
      rw [if_neg (by omega)]
      exact moF_eq h k (m0 + 1) (by omega) (by omega) (by omega)
theorem CV.civ {n y m d : Int} (h : CV n y m d) : civY n = y ∧ civM n = m ∧ civD n = d := by
  have e1 : civY n = y := yrF_eq h 200 2000 h.y1 (by have := h.y2; omega)
  have e2 : civM n = m := by
    unfold civM
    rw [e1]
    exact moF_eq h 12 1 (by omega) h.m1 (by have := h.m2; omega)
  refine ⟨e1, e2, ?_⟩
  unfold civD
  rw [e1, e2]
  have := h.eq
  omega
theorem civ_cv {n : Int} (h1 : 0 ≤ n) (h2 : n ≤ 73048) : CV n (civY n) (civM n) (civD n) := by
  obtain ⟨y, m, d, h⟩ := cv_any n h1 h2
  obtain ⟨e1, e2, e3⟩ := h.civ
  rw [e1, e2, e3]
  exact h
/-- The first and the last day of a day's month. -/
def mFrom (n : Int) : Int := n - civD n + 1
def mTo (n : Int) : Int := n + lenM (civY n) (civM n) - civD n
theorem mFrom_cv {n : Int} (h1 : 0 ≤ n) (h2 : n ≤ 73048) : CV (mFrom n) (civY n) (civM n) 1 := by
  have h := civ_cv h1 h2
  have := h.eq
  have hl := len_bd (civY n) (civM n)
  exact ⟨h.y1, h.y2, h.m1, h.m2, by omega, by omega, by unfold mFrom; omega⟩
theorem mTo_cv {n : Int} (h1 : 0 ≤ n) (h2 : n ≤ 73048) : CV (mTo n) (civY n) (civM n) (lenM (civY n) (civM n)) := by
  have h := civ_cv h1 h2
  have := h.eq
  have hl := len_bd (civY n) (civM n)
  exact ⟨h.y1, h.y2, h.m1, h.m2, by omega, by omega, by unfold mTo; omega⟩
theorem mBounds {n : Int} (h1 : 0 ≤ n) (h2 : n ≤ 73048) : 0 ≤ mFrom n ∧ mFrom n ≤ n ∧ n ≤ mTo n ∧ mTo n ≤ 73048 ∧ mTo n ≤ mFrom n + 30 := by
  have h := civ_cv h1 h2
  have a := (mFrom_cv h1 h2).bd
  have b := (mTo_cv h1 h2).bd
  have hl := len_bd (civY n) (civM n)
  have d1 := h.d1
  have d2 := h.d2
  unfold mFrom mTo at *
  omega

/-- How many of the days from a on, up to b, does p hold of? -/
def cntF (p : Int → Bool) : Nat → Int → Int
  | 0, _ => 0
  | k + 1, a => cntF p k a + if p (a + k) = true then 1 else 0
def cnt (p : Int → Bool) (a b : Int) : Int := cntF p (b - a).toNat a
theorem cnt_self (p : Int → Bool) (a b : Int) (h : b ≤ a) : cnt p a b = 0 := by
  unfold cnt
  rw [show (b - a).toNat = 0 by omega]
  rfl
theorem cnt_snoc (p : Int → Bool) {a b : Int} (h : a ≤ b) : cnt p a (b + 1) = cnt p a b + if p b = true then 1 else 0 := by
  unfold cnt
  rw [show (b + 1 - a).toNat = (b - a).toNat + 1 by omega]
  show cntF p (b - a).toNat a + (if p (a + ((b - a).toNat : Int)) = true then 1 else 0) = _
  rw [show a + ((b - a).toNat : Int) = b by omega]
theorem cnt_yes (p : Int → Bool) {a b : Int} (h : a ≤ b) (hp : p b = true) : cnt p a (b + 1) = cnt p a b + 1 := by rw [cnt_snoc p h, if_pos hp]
theorem cnt_no (p : Int → Bool) {a b : Int} (h : a ≤ b) (hp : p b = false) : cnt p a (b + 1) = cnt p a b := by rw [cnt_snoc p h, if_neg (by simp [hp])]; omega
theorem cnt_bd (p : Int → Bool) (a : Int) : ∀ (k : Nat), 0 ≤ cntF p k a ∧ cntF p k a ≤ k
  | 0 => by simp [cntF]
  | k + 1 => by
    have := cnt_bd p a k
    unfold cntF
    split <;> omega
theorem cnt_bd2 (p : Int → Bool) {a b : Int} (h : a ≤ b) : 0 ≤ cnt p a b ∧ cnt p a b ≤ b - a := by
  have := cnt_bd p a (b - a).toNat
  unfold cnt
  omega

/-- Has one of the last days, from e downwards, this weekday? -/
def wkS (nth : Int) : Nat → Int → Bool
  | 0, _ => false
  | k + 1, e => decide ((e + 5) % 7 = nth) || wkS nth k (e - 1)
def lastB (p : Int → Bool) (d : Int) : Int := (toP p (d - 1)).getD (-1)
def weekB (p : Int → Bool) (nth d : Int) : Bool := wkS nth (d - lastB p d).toNat d
def nthB (n a b : Int) : Bool := decide (a = n - 1) || (decide (a < n - 1) && decide (b = 0))
def monB (p : Int → Bool) (nth d : Int) : Bool :=
  if nth < 0 then nthB (-nth) (cnt p (d + 1) (mTo d + 1)) (cnt p (mFrom d) d) else nthB nth (cnt p (mFrom d) d) (cnt p (d + 1) (mTo d + 1))
def ruleB (s : SC) (p : Int → Bool) (d : Int) : Bool := if s.period = 1 then true else if s.period = 2 then weekB p s.nth d else monB p s.nth d
/-- Is d a dealing day? -/
def dealB (s : SC) (c : CN) (d : Int) : Bool := biz c d && ruleB s (biz c) d
theorem dealB_biz {s : SC} {c : CN} {d : Int} (h : dealB s c d = true) : biz c d = true := by
  unfold dealB at h
  simp only [Bool.and_eq_true] at h
  exact h.1
theorem dealB_no {s : SC} {c : CN} {d : Int} (h : biz c d = false) : dealB s c d = false := by simp [dealB, h]
/-- The deadline of a dealing day. -/
def dlO (s : SC) (z : ZN) (c : CN) (d : Int) : Option Int := (stepDn (biz c) s.notice.toNat d).bind fun n => instFrom 0 z.off z.cs (1440 * n + s.cutoff)
/-- Is the deadline of d, a dealing day, not before t? -/
def okB (s : SC) (z : ZN) (c : CN) (t d : Int) : Bool := dealB s c d && (match dlO s z c d with | some x => decide (t ≤ x) | none => false)
end Go.Proofs.YtffmmkjoknghoaaGreat
