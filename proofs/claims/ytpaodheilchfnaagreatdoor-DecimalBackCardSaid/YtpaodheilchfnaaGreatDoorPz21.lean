/- What the laws lean on. -/
import Derived.Test.YtpaodheilchfnaaGreatDoorPz16
namespace Go.Proofs.YtpaodheilchfnaaGreatDoor
set_option linter.unusedVariables false
set_option linter.unusedSimpArgs false
section
section
open Go.RowKit
theorem TapeAt.less {w : World} {B b n m : Nat} (h : TapeAt w B b n) (hm : m ≤ n) : TapeAt w B b m := by
  obtain ⟨hb, A, L, cap, p, hl, hp, hc, he⟩ := h
  exact ⟨hb, A, L, cap, p, hl, by omega, hc, he⟩
end
end
section
open Go.RowKit
section
variable {w0 u W W' : World} {L : List Ent} {B b N : Nat}
theorem Tp.less (h : Tp w0 u B b N) {M : Nat} (hm : M ≤ N) : Tp w0 u B b M := ⟨h.only, h.tape.less hm⟩
theorem tap_end {R : Value → Prop} {v : Value} (T : Tp w0 u B b N) (F : Fr u W L) (hv : R v) : TapP R B b N w0 (.returned v) W := ⟨v, hv, rfl, T.at F, T.out F⟩
end
end
end Go.Proofs.YtpaodheilchfnaaGreatDoor
