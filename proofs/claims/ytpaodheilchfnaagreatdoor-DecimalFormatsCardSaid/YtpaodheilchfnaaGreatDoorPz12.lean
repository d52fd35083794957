/- What the laws lean on. -/
import Derived.Test.YtpaodheilchfnaaGreatDoorPz1
namespace Go.Proofs.YtpaodheilchfnaaGreatDoor
set_option linter.unusedVariables false
set_option linter.unusedSimpArgs false
section
section
open Go.RowKit
section
variable {W W' : World} {A : Option Addr} {n : Nat} {L : List (List Value)}
theorem RecsAt.keep (h : RecsAt W A n L) (hs : W.heap.size ≤ W'.heap.size) (he : ∀ (k : Nat) (r : List Value), L[k]? = some r → ∀ ad : Addr, A = some ad → W'.heap[ad.block]? = W.heap[ad.block]?) : RecsAt W' A n L :=
  ⟨h.ln, fun k r hr => by
    obtain ⟨b, o, hA, hlt, hc⟩ := h.rows k r hr
    exact ⟨b, o, hA, Nat.lt_of_lt_of_le hlt hs, fun j v hj => (World.cell?_of_block (w := W) (a := ⟨b, o + k * n + j, none⟩) (he k r hr ⟨b, o, none⟩ hA)).trans (hc j v hj)⟩⟩
end
end
end
end Go.Proofs.YtpaodheilchfnaaGreatDoor
