/-
  A slice that a function makes by appending, beside old memory.
-/
import Derived.Test.YtffmmkjoknghoaaGreatBase
namespace Go.Proofs.YtffmmkjoknghoaaGreat
open Go.RowKit
/-- Since W0 only new blocks have turned, and v is a slice of n elements of sz cells in such a block, or nil. -/
structure OwnL (W0 W : World) (e : TypeId) (sz : Nat) (v : Value) (n : Nat) (xs : List Value) : Prop where
  below : Below W0.heap.size W0 W
  own : W.ownsRow W0.heap.size e sz v n xs
section
variable {W0 W W' : World} {e : TypeId} {sz : Nat} {v v' : Value} {n n' : Nat} {xs xs' : List Value}
theorem grown_below {W W' : World} (hb : Below W.heap.size W W') (r : Option Nat) : W.grownBy W' r := ⟨hb.os, hb.tape, hb.output, hb.size, fun i hi _ => hb.block i hi⟩
theorem own_next {B : Nat} (h : W.ownsRow B e sz v n xs) (hb : Below W.heap.size W W') : W'.ownsRow B e sz v n xs := by
  refine h.kept (grown_below hb none) ?_
  cases v.ownBlock with
  | none => exact .inl rfl
  | some k => exact .inr (fun e => by cases e)
theorem OwnL.next (h : OwnL W0 W e sz v n xs) (hb : Below W.heap.size W W') : OwnL W0 W' e sz v n xs := ⟨bnext h.below hb, own_next h.own hb⟩
theorem OwnL.start (W0 : World) (e : TypeId) (sz : Nat) : OwnL W0 W0 e sz (.slice none 0 0) 0 [] := ⟨Below.refl _ _, World.ownsRow_nil _ _ _ _⟩
theorem OwnL.pushed (h : OwnL W0 W e sz v n xs) (hg : W.grownBy W' v.ownBlock) (hown : W'.ownsRow W0.heap.size e sz v' n' xs') : OwnL W0 W' e sz v' n' xs' :=
  ⟨⟨hg.os.trans h.below.os, hg.tape.trans h.below.tape, hg.output.trans h.below.output, Nat.le_trans h.below.size hg.size, fun i hi => (hg.block i (Nat.lt_of_lt_of_le hi h.below.size) (fun e => by have := (h.own.lt i e.symm).1; omega)).trans (h.below.block i hi)⟩, hown⟩
/-- It is a slice of n elements, and its cells read as listed. -/
theorem OwnL.read (h : OwnL W0 W e sz v n xs) : ∃ A cap, v = .slice A n cap ∧ ∀ j u, xs[j]? = some u → ∃ g, A = some ⟨g, 0, none⟩ ∧ g < W.heap.size ∧ W.cell? ⟨g, j, none⟩ = some u := by
  rcases h.own.2 with ⟨rfl, h0⟩ | ⟨g, cap, cur, rfl, hgb, hh, hle, _, hsz, ht⟩
  · refine ⟨none, 0, by rw [h0], fun j u hu => ?_⟩
    have := h.own.1
    rw [h0] at this
    simp at this
    rw [this] at hu
    simp at hu
  · refine ⟨some ⟨g, 0, none⟩, cap, rfl, fun j u hu => ⟨g, rfl, (Array.getElem?_eq_some_iff.1 hh).1, ?_⟩⟩
    have := h.own.cells (g := g) rfl j u hu
    rw [Go.WideShapes.add_plain] at this
    simpa using this
end
end Go.Proofs.YtffmmkjoknghoaaGreat
