/- What the laws lean on. -/
import Derived.Test.YtpaodheilchfnaaGreatDoorPz9
namespace Go.Proofs.YtpaodheilchfnaaGreatDoor
set_option linter.unusedVariables false
set_option linter.unusedSimpArgs false
section
theorem mkR_valid {n d : Int} : (mkR n d).2.2 = 0 → okZ (mkR n d).1 (mkR n d).2.1 := by
  intro h
  rcases Int.lt_trichotomy d 0 with h1 | h1 | h1
  · have e : mkR n d = if (lowN (-n) (-d)).natAbs < bp 15 ∧ (lowD (-n) (-d)).natAbs < bp 15 then (lowN (-n) (-d), lowD (-n) (-d), 0) else (0, 0, 10) := by
      unfold mkR
      rw [if_neg (by omega)]
      dsimp only
      rw [if_pos h1]
      have e1 : n / -(Int.gcd n d : Int) = lowN (-n) (-d) := by
        unfold lowN
        rw [Int.neg_gcd, Int.gcd_neg, Int.ediv_neg, Int.neg_ediv_of_dvd (Int.gcd_dvd_left _ _)]
      have e2 : d / -(Int.gcd n d : Int) = lowD (-n) (-d) := by
        unfold lowD
        rw [Int.neg_gcd, Int.gcd_neg, Int.ediv_neg, Int.neg_ediv_of_dvd (Int.gcd_dvd_right _ _)]
      rw [e1, e2]
      simp only [bl_bp15]
    rw [e] at h ⊢
    by_cases h2 : (lowN (-n) (-d)).natAbs < bp 15 ∧ (lowD (-n) (-d)).natAbs < bp 15
    · rw [if_pos h2]
      exact okZ_iff.2 ⟨h2, lowD_pos (by omega), low_gcd (by omega)⟩
    · rw [if_neg h2] at h
      exact absurd h (by decide)
  · subst h1
    rw [show mkR n 0 = (0, 0, 11) from by unfold mkR; rw [if_pos rfl]] at h
    exact absurd h (by decide)
  · rw [mkR_low h1] at h ⊢
    by_cases h2 : (lowN n d).natAbs < bp 15 ∧ (lowD n d).natAbs < bp 15
    · rw [if_pos h2]
      exact okZ_iff.2 ⟨h2, lowD_pos h1, low_gcd h1⟩
    · rw [if_neg h2] at h
      exact absurd h (by decide)
end
end Go.Proofs.YtpaodheilchfnaaGreatDoor
