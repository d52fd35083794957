/- What the laws lean on. -/
import Derived.Test.YtpaodheilchfnaaGreatDoorPz6
namespace Go.Proofs.YtpaodheilchfnaaGreatDoor
set_option linter.unusedVariables false
set_option linter.unusedSimpArgs false
section
open Go.RowKit
set_option maxHeartbeats 2000000
theorem chkE_ok {v : Prop} [Decidable v] {p : Int} (h : chkE v p = 0) : v ∧ 0 ≤ p ∧ p ≤ 9 := by
  unfold chkE at h
  split at h
  · exact absurd h (by decide)
  · rename_i hv
    split at h
    · exact absurd h (by decide)
    · exact ⟨by rwa [Classical.not_not] at hv, by omega, by omega⟩
end
end Go.Proofs.YtpaodheilchfnaaGreatDoor
