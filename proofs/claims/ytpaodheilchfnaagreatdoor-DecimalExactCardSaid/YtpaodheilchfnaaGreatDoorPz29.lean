/- What the laws lean on. -/
import Derived.Test.YtpaodheilchfnaaGreatDoorPz11
import Derived.Test.YtpaodheilchfnaaGreatDoorPz15
namespace Go.Proofs.YtpaodheilchfnaaGreatDoor
set_option linter.unusedVariables false
set_option linter.unusedSimpArgs false
section
open Go.RowKit
set_option maxHeartbeats 4000000
theorem zz32 : (0 : Int).natAbs < bp 32 := bp_pos 32
theorem mkR_b (n d : Int) : (mkR n d).1.natAbs < bp 32 ∧ (mkR n d).2.1.natAbs < bp 32 := by
  by_cases h : (mkR n d).2.2 = 0
  · exact okZ_b (mkR_valid h)
  · unfold mkR at h ⊢
    by_cases hd : d = 0
    · rw [if_pos hd]
      exact ⟨zz32, zz32⟩
    · rw [if_neg hd] at h ⊢
      dsimp only at h ⊢
      generalize (if d < 0 then -(Int.gcd n d : Int) else (Int.gcd n d : Int)) = s at h ⊢
      by_cases hb : bl (n / s).natAbs ≤ 480 ∧ bl (d / s).natAbs ≤ 480
      · rw [if_pos hb] at h
        exact absurd rfl h
      · rw [if_neg hb]
        exact ⟨zz32, zz32⟩
end
end Go.Proofs.YtpaodheilchfnaaGreatDoor
