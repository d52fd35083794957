/-
  Schedules in plain words: the search for the first dealing day whose deadline is not before an instant.
-/
import Derived.Test.YtffmmkjoknghoaaGreatSchedWalkF
namespace Go.Proofs.YtffmmkjoknghoaaGreat
open Go.RowKit
set_option linter.unusedVariables false

theorem okB_deal {s : SC} {z : ZN} {c : CN} {t d : Int} (h : okB s z c t d = true) : dealB s c d = true := by
  unfold okB at h
  simp only [Bool.and_eq_true] at h
  exact h.1
theorem okB_no {s : SC} {z : ZN} {c : CN} {t d : Int} (h : dealB s c d = false) : okB s z c t d = false := by simp [okB, h]
theorem okB_at {s : SC} {z : ZN} {c : CN} {t d v e : Int} (hd : dealB s c d = true) (h : DlR s z c d v e) : (e = 0 ∧ t ≤ v ∧ okB s z c t d = true) ∨ (e = 0 ∧ v < t ∧ okB s z c t d = false) ∨ (e ≠ 0 ∧ okB s z c t d = false) := by
  unfold okB
  rcases h.opt with ⟨h0, h1⟩ | ⟨h0, h1⟩
  · rw [hd, h1]
    by_cases ht : t ≤ v
    · exact .inl ⟨h0, ht, by simp [ht]⟩
    · exact .inr (.inl ⟨h0, by omega, by simp; omega⟩)
  · rw [hd, h1]
    exact .inr (.inr ⟨h0, rfl⟩)
/-- Where nothing deals, nothing is found. -/
theorem skip_some {p q : Int → Bool} (hpq : ∀ d, q d = true → p d = true) {d r : Int} (h : fromP p d = some r) : fromP q d = fromP q r := by
  obtain ⟨h1, h2, h3, h4⟩ := fromP_spec h
  cases hq : fromP q r with
  | none =>
    cases hd : fromP q d with
    | none => rfl
    | some y =>
      obtain ⟨a1, a2, a3, a4⟩ := fromP_spec hd
      by_cases hy : y < r
      · have := h4 y a1 hy; rw [hpq y a3] at this; cases this
      · have := fromP_none hq y (by omega) a2; rw [a3] at this; cases this
  | some y =>
    obtain ⟨a1, a2, a3, a4⟩ := fromP_spec hq
    refine fromP_is (by omega) a2 a3 (fun e e1 e2 => ?_)
    by_cases he : e < r
    · have := h4 e e1 he
      cases hx : q e
      · rfl
      · rw [hpq e hx] at this; cases this
    · exact a4 e (by omega) e2
theorem skip_none {p q : Int → Bool} (hpq : ∀ d, q d = true → p d = true) {d : Int} (h : fromP p d = none) : fromP q d = none := by
  cases hd : fromP q d with
  | none => rfl
  | some y =>
    obtain ⟨a1, a2, a3, a4⟩ := fromP_spec hd
    have := fromP_none h y a1 a2
    rw [hpq y a3] at this
    cases this
theorem inst_le {z : ZN} (h : z.ok = true) {l x : Int} (hx : instFrom 0 z.off z.cs l = some x) (h0 : 0 ≤ l) : x ≤ l + 900 := by
  obtain ⟨a1, a2, a3, a4⟩ := ZN.inst_spec h hx
  rcases Int.lt_or_le (l + 900) x with hl | hl
  · have := a4 (x - 1) (by omega) (by omega)
    have hb := ZN.offset_bd h (x - 1)
    unfold ZN.locN at this
    omega
  · exact hl
/-- A day that is two days older has its deadline before the instant. -/
theorem early_no {s : SC} {z : ZN} {c : CN} {t d : Int} (hs : s.ok = true) (hz : z.ok = true) (hd0 : 0 ≤ d) (hd : 1440 * (d + 2) ≤ t) : okB s z c t d = false := by
  obtain ⟨-, -, -, -, c1, c2⟩ := SC.ok_ranges hs
  unfold okB
  cases hv : dealB s c d
  · rfl
  · cases ho : dlO s z c d with
    | none => rfl
    | some x =>
      unfold dlO at ho
      cases hn : stepDn (biz c) s.notice.toNat d with
      | none => rw [hn] at ho; cases ho
      | some n =>
        rw [hn] at ho
        have hi : instFrom 0 z.off z.cs (1440 * n + s.cutoff) = some x := ho
        have h1 := stepDn_le _ _ _ hn
        have h2 := stepDn_bd _ _ _ hn hd0
        have h3 := inst_le hz hi (by omega)
        simp
        omega
theorem for_start {s : SC} {z : ZN} {c : CN} {t : Int} (hs : s.ok = true) (hz : z.ok = true) (ht0 : 0 ≤ t) (ht1 : t ≤ 105190559) : fromP (okB s z c t) (max 0 (t / 1440 - 3)) = fromP (okB s z c t) (max 0 (t / 1440 - 2)) := by
  by_cases h : t / 1440 ≤ 2
  · rw [show max 0 (t / 1440 - 3) = 0 by omega, show max 0 (t / 1440 - 2) = 0 by omega]
  · rw [show max 0 (t / 1440 - 3) = t / 1440 - 3 by omega, show max 0 (t / 1440 - 2) = t / 1440 - 3 + 1 by omega]
    exact fromP_no (by omega) (early_no hs hz (by omega) (by omega))
end Go.Proofs.YtffmmkjoknghoaaGreat
