/-
  Suspensions: the document's check of a list.
-/
import Derived.Test.YtffmmkjoknghoaaSusCheck
namespace Go.Proofs.Ytffmmkjoknghoaa
open Go.RowKit
set_option linter.unusedVariables false
set_option maxHeartbeats 4000000
theorem SuAt.q {W : World} {b o i : Nat} {x : SU} {l : List SU} (h : SuAt W (some ⟨b, o, none⟩) l) (hx : l[i]? = some x) : W.cell? ⟨b, o + i * 6, none⟩ = some (.string x.key) ∧ W.cell? ⟨b, o + i * 6 + 1, none⟩ = some (.string x.fund) ∧ W.cell? ⟨b, o + i * 6 + 2, none⟩ = some (.int .i64 x.frm) ∧
    W.cell? ⟨b, o + i * 6 + 3, none⟩ = some (.int .i64 x.til) ∧ W.cell? ⟨b, o + i * 6 + 4, none⟩ = some (.int .i64 x.known) ∧ W.cell? ⟨b, o + i * 6 + 5, none⟩ = some (.bool x.void) := by
  obtain ⟨b2, o2, z, e, hz, -, -, h0, h1, h2, h3, h4, h5⟩ := h.get (i := i) (List.getElem?_eq_some_iff.1 hx).1
  injection e with e
  injection e with e1 e2
  subst e1 e2
  rw [hx] at hz
  injection hz with hz
  subst hz
  exact ⟨h0, h1, h2, h3, h4, h5⟩
theorem SuAt.q2 {W : World} {b o i j : Nat} {x y : SU} {l : List SU} (h : SuAt W (some ⟨b, o, none⟩) l) (hx : l[i]? = some x) (hy : l[j]? = some y) : (W.cell? ⟨b, o + i * 6, none⟩ = some (.string x.key) ∧ W.cell? ⟨b, o + i * 6 + 1, none⟩ = some (.string x.fund) ∧ W.cell? ⟨b, o + i * 6 + 2, none⟩ = some (.int .i64 x.frm) ∧
    W.cell? ⟨b, o + i * 6 + 3, none⟩ = some (.int .i64 x.til) ∧ W.cell? ⟨b, o + i * 6 + 4, none⟩ = some (.int .i64 x.known) ∧ W.cell? ⟨b, o + i * 6 + 5, none⟩ = some (.bool x.void)) ∧ W.cell? ⟨b, o + j * 6 + 4, none⟩ = some (.int .i64 y.known) ∧ SuAt W (some ⟨b, o, none⟩) l := ⟨h.q hx, (h.q hy).2.2.2.2.1, h⟩
end Go.Proofs.Ytffmmkjoknghoaa
