/- What the laws lean on. -/
import Derived.Test.YtpaodheilchfnaaGreatDoorPz16
namespace Go.Proofs.YtpaodheilchfnaaGreatDoor
set_option linter.unusedVariables false
set_option linter.unusedSimpArgs false
section
section
open Go.RowKit
def ChanceP (B b N : Nat) (w : World) (e : Ending) (w' : World) : Prop :=
  ∃ v : Bool, e = .returned (.bool v) ∧ TapeAt w' B b N ∧ Only b w w'
theorem chance_any (m n : Int) (B b N : Nat) (w : World) (h : TapeAt w B b (N + 1)) (hn : 1 ≤ n) (hn2 : n ≤ 1000000) :
    Calls Tryz.prog 33 #[.pointer (some ⟨b, 0, none⟩), .int .i64 m, .int .i64 n] w (ChanceP B b N w) := by
  go_enter Tryz.func33, Tryz.ntmps33
  go_wp2_with fail
  refine (next_in h (by omega) (by omega)).mono ?_
  rintro e w1 ⟨k, hk, rfl, ht, ho⟩
  go_wp2
  go_ret
  exact ⟨_, rfl, ht, ho⟩
end
end
section
open Go.RowKit
section
variable {w0 u W W' : World} {L : List Ent} {B b N : Nat}
theorem tchance (m n : Int) (hn : 1 ≤ n) (hn2 : n ≤ 1000000) (h : TapeAt W B b (N + 1)) : Calls Tryz.prog 33 #[.pointer (some ⟨b, 0, none⟩), .int .i64 m, .int .i64 n] W (TapP (fun v => ∃ c, v = .bool c) B b N W) :=
  (chance_any m n B b N W h hn hn2).mono fun _ _ ⟨k, he, ht, ho⟩ => ⟨_, ⟨k, rfl⟩, he, ht, ho⟩
end
end
end Go.Proofs.YtpaodheilchfnaaGreatDoor
