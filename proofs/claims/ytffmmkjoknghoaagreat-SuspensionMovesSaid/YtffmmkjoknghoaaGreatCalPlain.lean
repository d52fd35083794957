/-
  Calendars in plain words: business days, the next and the last one, steps; no program in sight.
-/
import Derived.Test.YtffmmkjoknghoaaGreatBase
namespace Go.Proofs.YtffmmkjoknghoaaGreat
open Go.RowKit
set_option linter.unusedVariables false

/-- A calendar: its name, its weekend, its holidays. -/
structure CN where
  name : ByteArray
  w0 : Bool
  w1 : Bool
  w2 : Bool
  w3 : Bool
  w4 : Bool
  w5 : Bool
  w6 : Bool
  hs : List Int
def CN.wk (c : CN) : Nat → Bool
  | 0 => c.w0
  | 1 => c.w1
  | 2 => c.w2
  | 3 => c.w3
  | 4 => c.w4
  | 5 => c.w5
  | 6 => c.w6
  | _ => false
/-- Is the weekday of a day free? -/
def CN.off (c : CN) (d : Int) : Bool := c.wk ((d + 5) % 7).toNat
def CN.hol (c : CN) (d : Int) : Bool := decide (d ∈ c.hs)
def biz (c : CN) (d : Int) : Bool := decide (0 ≤ d ∧ d ≤ 73048) && (!c.off d && !c.hol d)
theorem biz_of {c : CN} {d : Int} (h : biz c d = true) : 0 ≤ d ∧ d ≤ 73048 := by
  unfold biz at h
  simp only [Bool.and_eq_true, decide_eq_true_eq] at h
  exact h.1
theorem biz_out {c : CN} {d : Int} (h : ¬(0 ≤ d ∧ d ≤ 73048)) : biz c d = false := by
  cases hb : biz c d
  · rfl
  · exact absurd (biz_of hb) h

/-- The first day from d on that p holds of. -/
def fromF (p : Int → Bool) : Nat → Int → Option Int
  | 0, _ => none
  | k + 1, d => if p d = true then some d else fromF p k (d + 1)
def fromP (p : Int → Bool) (d : Int) : Option Int := fromF p (73049 - d).toNat d
theorem fromP_out {p : Int → Bool} {d : Int} (h : 73048 < d) : fromP p d = none := by
  unfold fromP
  rw [show (73049 - d).toNat = 0 by omega]
  rfl
theorem fromP_in {p : Int → Bool} {d : Int} (h : d ≤ 73048) : fromP p d = if p d = true then some d else fromP p (d + 1) := by
  unfold fromP
  rw [show (73049 - d).toNat = (73049 - (d + 1)).toNat + 1 by omega]
  rfl
theorem fromP_yes {p : Int → Bool} {d : Int} (h : d ≤ 73048) (hp : p d = true) : fromP p d = some d := by rw [fromP_in h, if_pos hp]
theorem fromP_no {p : Int → Bool} {d : Int} (h : d ≤ 73048) (hp : p d = false) : fromP p d = fromP p (d + 1) := by rw [fromP_in h, if_neg (by simp [hp])]
theorem fromF_spec {p : Int → Bool} : ∀ (k : Nat) (d r : Int), fromF p k d = some r → d ≤ r ∧ r < d + k ∧ p r = true ∧ ∀ e, d ≤ e → e < r → p e = false
  | 0, _, _, h => by cases h
  | k + 1, d, r, h => by
    unfold fromF at h
    by_cases hp : p d = true
    · rw [if_pos hp] at h
      injection h with h
      subst h
      exact ⟨Int.le_refl _, by omega, hp, fun e h1 h2 => by omega⟩
    · rw [if_neg hp] at h
      obtain ⟨h1, h2, h3, h4⟩ := fromF_spec k (d + 1) r h
      refine ⟨by omega, by omega, h3, fun e e1 e2 => ?_⟩
      by_cases he : e = d
      · subst he
        simpa using hp
      · exact h4 e (by omega) e2
theorem fromP_spec {p : Int → Bool} {d r : Int} (h : fromP p d = some r) : d ≤ r ∧ r ≤ 73048 ∧ p r = true ∧ ∀ e, d ≤ e → e < r → p e = false := by
  obtain ⟨h1, h2, h3, h4⟩ := fromF_spec _ _ _ h
  exact ⟨h1, by omega, h3, h4⟩
theorem fromF_none {p : Int → Bool} : ∀ (k : Nat) (d : Int), fromF p k d = none → ∀ e, d ≤ e → e < d + k → p e = false
  | 0, _, _ => fun e h1 h2 => by omega
  | k + 1, d, h => fun e h1 h2 => by
    unfold fromF at h
    by_cases hp : p d = true
    · rw [if_pos hp] at h
      cases h
    · rw [if_neg hp] at h
      by_cases he : e = d
      · subst he
        simpa using hp
      · exact fromF_none k (d + 1) h e (by omega) (by omega)
theorem fromP_none {p : Int → Bool} {d : Int} (h : fromP p d = none) : ∀ e, d ≤ e → e ≤ 73048 → p e = false := fun e h1 h2 => fromF_none _ _ h e h1 (by omega)
theorem fromP_is {p : Int → Bool} {d r : Int} (h1 : d ≤ r) (h2 : r ≤ 73048) (h3 : p r = true) (h4 : ∀ e, d ≤ e → e < r → p e = false) : fromP p d = some r := by
  cases h : fromP p d with
  | none => have := fromP_none h r h1 h2; rw [h3] at this; cases this
  | some q =>
    obtain ⟨a1, a2, a3, a4⟩ := fromP_spec h
    rcases Int.lt_trichotomy q r with hx | hx | hx
    · have := h4 q a1 hx; rw [a3] at this; cases this
    · rw [hx]
    · have := a4 r h1 hx; rw [h3] at this; cases this
theorem fromP_congr {p q : Int → Bool} (h : ∀ e, p e = q e) (d : Int) : fromP p d = fromP q d := by rw [show p = q from funext h]

/-- The last day up to d that p holds of. -/
def toF (p : Int → Bool) : Nat → Int → Option Int
  | 0, _ => none
  | k + 1, d => if p d = true then some d else toF p k (d - 1)
def toP (p : Int → Bool) (d : Int) : Option Int := toF p (d + 1).toNat d
theorem toP_out {p : Int → Bool} {d : Int} (h : d < 0) : toP p d = none := by
  unfold toP
  rw [show (d + 1).toNat = 0 by omega]
  rfl
theorem toP_in {p : Int → Bool} {d : Int} (h : 0 ≤ d) : toP p d = if p d = true then some d else toP p (d - 1) := by
  unfold toP
  rw [show (d + 1).toNat = (d - 1 + 1).toNat + 1 by omega]
  rfl
theorem toP_yes {p : Int → Bool} {d : Int} (h : 0 ≤ d) (hp : p d = true) : toP p d = some d := by rw [toP_in h, if_pos hp]
theorem toP_no {p : Int → Bool} {d : Int} (h : 0 ≤ d) (hp : p d = false) : toP p d = toP p (d - 1) := by rw [toP_in h, if_neg (by simp [hp])]
theorem toF_spec {p : Int → Bool} : ∀ (k : Nat) (d r : Int), toF p k d = some r → r ≤ d ∧ d < r + k ∧ p r = true ∧ ∀ e, r < e → e ≤ d → p e = false
  | 0, _, _, h => by cases h
  | k + 1, d, r, h => by
    unfold toF at h
    by_cases hp : p d = true
    · rw [if_pos hp] at h
      injection h with h
      subst h
      exact ⟨Int.le_refl _, by omega, hp, fun e h1 h2 => by omega⟩
    · rw [if_neg hp] at h
      obtain ⟨h1, h2, h3, h4⟩ := toF_spec k (d - 1) r h
      refine ⟨by omega, by omega, h3, fun e e1 e2 => ?_⟩
      by_cases he : e = d
      · subst he
        simpa using hp
      · exact h4 e e1 (by omega)
theorem toP_spec {p : Int → Bool} {d r : Int} (h : toP p d = some r) : r ≤ d ∧ 0 ≤ r ∧ p r = true ∧ ∀ e, r < e → e ≤ d → p e = false := by
  obtain ⟨h1, h2, h3, h4⟩ := toF_spec _ _ _ h
  exact ⟨h1, by omega, h3, h4⟩
theorem toF_none {p : Int → Bool} : ∀ (k : Nat) (d : Int), toF p k d = none → ∀ e, e ≤ d → d < e + k → p e = false
  | 0, _, _ => fun e h1 h2 => by omega
  | k + 1, d, h => fun e h1 h2 => by
    unfold toF at h
    by_cases hp : p d = true
    · rw [if_pos hp] at h
      cases h
    · rw [if_neg hp] at h
      by_cases he : e = d
      · subst he
        simpa using hp
      · exact toF_none k (d - 1) h e (by omega) (by omega)
theorem toP_none {p : Int → Bool} {d : Int} (h : toP p d = none) : ∀ e, 0 ≤ e → e ≤ d → p e = false := fun e h1 h2 => toF_none _ _ h e h2 (by omega)
theorem toP_is {p : Int → Bool} {d r : Int} (h1 : r ≤ d) (h2 : 0 ≤ r) (h3 : p r = true) (h4 : ∀ e, r < e → e ≤ d → p e = false) : toP p d = some r := by
  cases h : toP p d with
  | none => have := toP_none h r h2 h1; rw [h3] at this; cases this
  | some q =>
    obtain ⟨a1, a2, a3, a4⟩ := toP_spec h
    rcases Int.lt_trichotomy q r with hx | hx | hx
    · have := a4 r hx h1; rw [h3] at this; cases this
    · rw [hx]
    · have := h4 q hx a1; rw [a3] at this; cases this

/-- The n-th such day after d; d itself for 0. -/
def stepUp (p : Int → Bool) : Nat → Int → Option Int
  | 0, d => some d
  | n + 1, d => (fromP p (d + 1)).bind (stepUp p n)
/-- .. before d. -/
def stepDn (p : Int → Bool) : Nat → Int → Option Int
  | 0, d => some d
  | n + 1, d => (toP p (d - 1)).bind (stepDn p n)
theorem stepUp_ge {p : Int → Bool} : ∀ (n : Nat) (d r : Int), stepUp p n d = some r → d ≤ r
  | 0, d, r, h => by injection h with h; omega
  | n + 1, d, r, h => by
    unfold stepUp at h
    cases hf : fromP p (d + 1) with
    | none => rw [hf] at h; cases h
    | some q =>
      rw [hf] at h
      have h1 := (fromP_spec hf).1
      have h2 := stepUp_ge n q r h
      omega
theorem stepDn_le {p : Int → Bool} : ∀ (n : Nat) (d r : Int), stepDn p n d = some r → r ≤ d
  | 0, d, r, h => by injection h with h; omega
  | n + 1, d, r, h => by
    unfold stepDn at h
    cases hf : toP p (d - 1) with
    | none => rw [hf] at h; cases h
    | some q =>
      rw [hf] at h
      have h1 := (toP_spec hf).1
      have h2 := stepDn_le n q r h
      omega
theorem stepUp_bd {p : Int → Bool} : ∀ (n : Nat) (d r : Int), stepUp p n d = some r → d ≤ 73048 → r ≤ 73048
  | 0, d, r, h, hd => by injection h with h; omega
  | n + 1, d, r, h, hd => by
    unfold stepUp at h
    cases hf : fromP p (d + 1) with
    | none => rw [hf] at h; cases h
    | some q =>
      rw [hf] at h
      exact stepUp_bd n q r h (fromP_spec hf).2.1
theorem stepDn_bd {p : Int → Bool} : ∀ (n : Nat) (d r : Int), stepDn p n d = some r → 0 ≤ d → 0 ≤ r
  | 0, d, r, h, hd => by injection h with h; omega
  | n + 1, d, r, h, hd => by
    unfold stepDn at h
    cases hf : toP p (d - 1) with
    | none => rw [hf] at h; cases h
    | some q =>
      rw [hf] at h
      exact stepDn_bd n q r h (toP_spec hf).2.1

/-- Ascending days. -/
def ascB : Int → List Int → Bool
  | _, [] => true
  | last, h :: t => decide (last < h) && (decide (0 ≤ h ∧ h ≤ 73048) && ascB h t)
theorem asc_mem : ∀ (l : List Int) (last : Int), ascB last l = true → ∀ x ∈ l, last < x ∧ 0 ≤ x ∧ x ≤ 73048
  | [], _, _ => fun x hx => by cases hx
  | h :: t, last, ha => fun x hx => by
    unfold ascB at ha
    simp only [Bool.and_eq_true, decide_eq_true_eq] at ha
    rcases List.mem_cons.1 hx with rfl | hx
    · omega
    · have := asc_mem t h ha.2.2 x hx
      omega
theorem asc_take_drop : ∀ (l : List Int) (last : Int) (k : Nat) (x : Int), ascB last l = true → l[k]? = some x → ascB x (l.drop (k + 1)) = true
  | [], _, _, _, _, h => by cases h
  | h :: t, last, 0, x, ha, hx => by
    unfold ascB at ha
    simp only [Bool.and_eq_true] at ha
    injection hx with hx
    subst hx
    exact ha.2.2
  | h :: t, last, k + 1, x, ha, hx => by
    unfold ascB at ha
    simp only [Bool.and_eq_true] at ha
    exact asc_take_drop t h k x ha.2.2 hx
theorem asc_lt (l : List Int) (last : Int) (i k : Nat) (x y : Int) (ha : ascB last l = true) (hx : l[i]? = some x) (hy : l[k]? = some y) (hik : i < k) : x < y := by
  have h1 := asc_take_drop l last i x ha hx
  have h2 : (l.drop (i + 1))[k - (i + 1)]? = some y := by rw [List.getElem?_drop, show i + 1 + (k - (i + 1)) = k by omega]; exact hy
  exact (asc_mem _ _ h1 y (List.mem_of_getElem? h2)).1
end Go.Proofs.YtffmmkjoknghoaaGreat
