/-
  How lists of suspensions that came in are read.
-/
import Derived.Test.YtllloldheofljaaSusRow
import Derived.Test.YtllloldheofljaaSchedOpen
namespace Go.Proofs.Ytllloldheofljaa
open Go.ChangeShapes Go.WideShapes Go.ChangeAt Go.RowKit Go.Deep
set_option linter.unusedVariables false
section
variable {H : Type} {enc : TypeId × Value → H}
set_option maxRecDepth 100000 in
theorem open_su1 {W : World} {fuel : Nat} {cs : List Value} {x : DataW H × List MemPlace}
    (h : DataW.trod enc Try.prog W 0 (fun _ => true) true fuel 72 cs = some x) (hl6 : cs.length = 6) : ∃ s : SU, cs = (suV s).toList ∧ s.small := by
  obtain ⟨xs, n, _, _, hl, hlen, hf⟩ := DataW.trod_struct Try.underlying72 h
  match cs, hl6 with
  | [c0, c1, c2, c3, c4, c5], _ =>
    match xs, hlen with
    | [y0, y1, y2, y3, y4, y5], _ =>
      have h0 : DataW.trod enc Try.prog W 0 (fun _ => true) true n 9 [c0] = some y0 := hf 0 _ rfl
      have h1 : DataW.trod enc Try.prog W 0 (fun _ => true) true n 9 [c1] = some y1 := hf 1 _ rfl
      have h2 : DataW.trod enc Try.prog W 0 (fun _ => true) true n 3 [c2] = some y2 := hf 2 _ rfl
      have h3 : DataW.trod enc Try.prog W 0 (fun _ => true) true n 3 [c3] = some y3 := hf 3 _ rfl
      have h4 : DataW.trod enc Try.prog W 0 (fun _ => true) true n 3 [c4] = some y4 := hf 4 _ rfl
      have h5 : DataW.trod enc Try.prog W 0 (fun _ => true) true n 4 [c5] = some y5 := hf 5 _ rfl
      obtain ⟨a0, rfl, b0⟩ := string1 h0
      obtain ⟨a1, rfl, b1⟩ := string1 h1
      obtain ⟨a2, rfl⟩ := int1 h2
      obtain ⟨a3, rfl⟩ := int1 h3
      obtain ⟨a4, rfl⟩ := int1 h4
      obtain ⟨a5, rfl⟩ := bool1 h5
      exact ⟨⟨a0, a1, a2, a3, a4, a5⟩, rfl, b0, b1⟩
/-- A list of suspensions that came in. -/
theorem open_sus {W : World} {A : Option Addr} {len cap : Nat} {d : DataW H} {p : List MemPlace}
    (h : DataW.Trod enc Try.prog W 0 (fun _ => true) true 59 (.slice A len cap) d p) : ∃ L : List SU, len = L.length ∧ SuAt W A L := by
  obtain ⟨L, h1, h2, h3⟩ := open_recs (fun x => (suV x).toList) SU.small 6 ⟨⟨#[]⟩, ⟨#[]⟩, 0, 0, 0, false⟩ (fun y => by simp [suV]) Try.underlying59 (by kernel_rfl) (by omega)
    (fun fuel cs x ht hl => open_su1 ht hl) h
  exact ⟨L, h1, h2, h3⟩
end
end Go.Proofs.Ytllloldheofljaa
