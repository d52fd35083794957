/-
  More small words on memory: cells behind stores.
-/
import Derived.Test.YtmjegmlchonlmaaBase
namespace Go.Proofs.Ytmjegmlchonlmaa
open Go.RowKit
theorem cell_set {w : World} {b o : Nat} {u v : Value} (hc : w.cell? ⟨b, o, none⟩ = some u) : (w.setCell ⟨b, o, none⟩ v).cell? ⟨b, o, none⟩ = some v := World.cell?_setCell_same _ _ _ hc
theorem cell_far {w : World} {b o b' o' : Nat} {v : Value} {r : Option Value} (h : b ≠ b' ∨ o ≠ o') (hc : w.cell? ⟨b', o', none⟩ = r) : (w.setCell ⟨b, o, none⟩ v).cell? ⟨b', o', none⟩ = r :=
  (World.cell?_setCell_other _ _ _ _ (by intro e; injection e with h1 h2; rcases h with h | h <;> contradiction)).trans hc
end Go.Proofs.Ytmjegmlchonlmaa
