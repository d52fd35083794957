/-
  How lists of orders that came in are read.
-/
import Derived.Test.YtbfllcfjgpkpaaaGreatOrdWalk
import Derived.Test.YtbfllcfjgpkpaaaGreatSchedOpen
namespace Go.Proofs.YtbfllcfjgpkpaaaGreat
open Go.ChangeShapes Go.WideShapes Go.ChangeAt Go.RowKit Go.Deep
set_option linter.unusedVariables false
section
variable {H : Type} {enc : TypeId × Value → H}
set_option maxRecDepth 100000 in
theorem open_ac1 {W : World} {fuel : Nat} {cs : List Value} {x : DataW H × List MemPlace}
    (h : DataW.trod enc Tryz.prog W 0 (fun _ => true) true fuel 55 cs = some x) (hl2 : cs.length = 2) : ∃ nom hol : ByteArray, cs = [.string nom, .string hol] ∧ nom.size ≤ maxLen ∧ hol.size ≤ maxLen := by
  obtain ⟨xs, n, _, _, hl, hlen, hf⟩ := DataW.trod_struct Tryz.underlying55 h
  match cs, hl2 with
  | [c0, c1], _ =>
    match xs, hlen with
    | [y0, y1], _ =>
      have h0 : DataW.trod enc Tryz.prog W 0 (fun _ => true) true n 9 [c0] = some y0 := hf 0 _ rfl
      have h1 : DataW.trod enc Tryz.prog W 0 (fun _ => true) true n 9 [c1] = some y1 := hf 1 _ rfl
      obtain ⟨a0, rfl, b0⟩ := string1 h0
      obtain ⟨a1, rfl, b1⟩ := string1 h1
      exact ⟨a0, a1, rfl, b0, b1⟩
set_option maxRecDepth 100000 in
theorem open_or1 {W : World} {fuel : Nat} {cs : List Value} {x : DataW H × List MemPlace}
    (h : DataW.trod enc Tryz.prog W 0 (fun _ => true) true fuel 57 cs = some x) (hl11 : cs.length = 11) : ∃ s : OR, cs = (orV s).toList ∧ s.small := by
  obtain ⟨xs, n, _, _, hl, hlen, hf⟩ := DataW.trod_struct Tryz.underlying57 h
  match cs, hl11 with
  | [c0, c1, c2, c3, c4, c5, c6, c7, c8, c9, c10], _ =>
    match xs, hlen with
    | [y0, y1, y3, y4, y5, y6, y7, y8, y9, y10], _ =>
      have h0 : DataW.trod enc Tryz.prog W 0 (fun _ => true) true n 9 [c0] = some y0 := hf 0 _ rfl
      have h1 : DataW.trod enc Tryz.prog W 0 (fun _ => true) true n 55 [c1, c2] = some y1 := hf 1 _ rfl
      have h3 : DataW.trod enc Tryz.prog W 0 (fun _ => true) true n 9 [c3] = some y3 := hf 2 _ rfl
      have h4 : DataW.trod enc Tryz.prog W 0 (fun _ => true) true n 9 [c4] = some y4 := hf 3 _ rfl
      have h5 : DataW.trod enc Tryz.prog W 0 (fun _ => true) true n 3 [c5] = some y5 := hf 4 _ rfl
      have h6 : DataW.trod enc Tryz.prog W 0 (fun _ => true) true n 3 [c6] = some y6 := hf 5 _ rfl
      have h7 : DataW.trod enc Tryz.prog W 0 (fun _ => true) true n 3 [c7] = some y7 := hf 6 _ rfl
      have h8 : DataW.trod enc Tryz.prog W 0 (fun _ => true) true n 3 [c8] = some y8 := hf 7 _ rfl
      have h9 : DataW.trod enc Tryz.prog W 0 (fun _ => true) true n 3 [c9] = some y9 := hf 8 _ rfl
      have h10 : DataW.trod enc Tryz.prog W 0 (fun _ => true) true n 4 [c10] = some y10 := hf 9 _ rfl
      obtain ⟨a0, rfl, b0⟩ := string1 h0
      obtain ⟨a1, a2, e12, b1, b2⟩ := open_ac1 h1 rfl
      simp only [List.cons.injEq, and_true] at e12
      obtain ⟨rfl, rfl⟩ := e12
      obtain ⟨a3, rfl, b3⟩ := string1 h3
      obtain ⟨a4, rfl, b4⟩ := string1 h4
      obtain ⟨a5, rfl⟩ := int1 h5
      obtain ⟨a6, rfl⟩ := int1 h6
      obtain ⟨a7, rfl⟩ := int1 h7
      obtain ⟨a8, rfl⟩ := int1 h8
      obtain ⟨a9, rfl⟩ := int1 h9
      obtain ⟨a10, rfl⟩ := bool1 h10
      exact ⟨⟨a0, a1, a2, a3, a4, a5, a6, a7, a8, a9, a10⟩, rfl, b0, b1, b2, b3, b4⟩
/-- A list of orders that came in. -/
theorem open_ords {W : World} {A : Option Addr} {len cap : Nat} {d : DataW H} {p : List MemPlace}
    (h : DataW.Trod enc Tryz.prog W 0 (fun _ => true) true 22 (.slice A len cap) d p) : ∃ L : List OR, len = L.length ∧ OrAt W A L := by
  obtain ⟨L, h1, h2, h3⟩ := open_recs (fun x => (orV x).toList) OR.small 11 ⟨⟨#[]⟩, ⟨#[]⟩, ⟨#[]⟩, ⟨#[]⟩, ⟨#[]⟩, 0, 0, 0, 0, 0, false⟩ (fun y => by simp [orV]) Tryz.underlying22 (by kernel_rfl) (by omega)
    (fun fuel cs x ht hl => open_or1 ht hl) h
  exact ⟨L, h1, h2, h3⟩
end
end Go.Proofs.YtbfllcfjgpkpaaaGreat
