/- What the laws lean on. -/
import Derived.Test.YtpaodheilchfnaaGreatDoorPz6
namespace Go.Proofs.YtpaodheilchfnaaGreatDoor
set_option linter.unusedVariables false
set_option linter.unusedSimpArgs false
section
open Go.RowKit
set_option maxHeartbeats 2000000
def exR (v : Prop) [Decidable v] (n d p : Int) : Bool × Int := if chkE v p ≠ 0 then (false, chkE v p) else (decide (n * ((10 ^ p.toNat : Nat) : Int) % d = 0), 0)
end
end Go.Proofs.YtpaodheilchfnaaGreatDoor
