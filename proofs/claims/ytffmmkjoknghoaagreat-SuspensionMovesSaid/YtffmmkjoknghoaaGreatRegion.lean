/-
  A region that draws its order, walked by hand: operations that look at no memory, or whose guard is false, are taken first; the frame stays written out.
-/
import Derived.Test.YtffmmkjoknghoaaGreatBase
import Derived.Orders
import Derived.RegionTactic
import Derived.Deep.RegionWith
namespace Go.Proofs.YtffmmkjoknghoaaGreat
open Go.RowKit
section
variable {P : Program} {md : Region.Mode} {ops : Array Oper} {Q : Exit → Act → World → Prop}
theorem rg_take (i d : Nat) {oi : Oper} {tmps : List Value} {ds : List Deferred} {v : Value} {fuel : Nat} {listed : Array Bool} {w : World} (hi : ops[i]? = some oi) (hd : oi.dst = some d)
    (hs : Region.noSelect ops = true) (hf : Region.free md ops listed i = true) (hr : (Region.ready md ops listed).contains i = true)
    (hQ : ∀ c a w, Q (.panic c) (a.put oi.dst v) w → Q (.panic c) a w) (hy : Yields P ops oi v ⟨⟨tmps⟩, ds⟩)
    (h : wpAny P md ops Q fuel (listed.setIfInBounds i true) ⟨⟨tmps.set d v⟩, ds⟩ w) : wpAny P md ops Q (fuel + 1) listed ⟨⟨tmps⟩, ds⟩ w := by
  refine wpAny_take hi hs hf hr hQ hy ?_
  rw [hd]
  simpa [Act.put] using h
end
end Go.Proofs.YtffmmkjoknghoaaGreat
