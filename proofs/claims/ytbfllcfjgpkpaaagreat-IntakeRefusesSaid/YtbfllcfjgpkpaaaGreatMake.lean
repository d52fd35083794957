/-
  The tape of the generators: drawing numbers from it. What is drawn is in its range, whatever the tape holds.
  Picks out of lists that have just been written out; the generator of days.
-/
import Derived.Test.YtbfllcfjgpkpaaaGreatBase
import Derived.Test.YtbfllcfjgpkpaaaGreatRows
import Derived.Deep.OwnRows
import Derived.Laws.AppendOwn
namespace Go.Proofs.YtbfllcfjgpkpaaaGreat
section
open Go.RowKit

def foldI (x n : Int) : Int := if n ≤ 1 then 0 else x % n
theorem fold_lt (x n : Int) : 0 ≤ foldI x n ∧ foldI x n < max n 1 := by
  unfold foldI
  split
  · omega
  · have h1 := Int.emod_nonneg x (b := n) (by omega)
    have h2 := Int.emod_lt_of_pos x (b := n) (by omega)
    omega
theorem tmod_neg {x n : Int} (hn : 1 < n) (hN : n ≤ 9223372036854775807) (h : x.tmod n < 0) : wrap64 (x.tmod n + n) = x % n := by
  have h1 : x.tmod n = x % n - n := by
    rw [Int.tmod_eq_emod] at h ⊢
    split at h
    · have := Int.emod_nonneg x (b := n) (by omega); omega
    · rename_i hx
      rw [if_neg hx, Int.natAbs_of_nonneg (by omega)]
  have h2 := Int.emod_nonneg x (b := n) (by omega)
  have h3 := Int.emod_lt_of_pos x (b := n) (by omega)
  rw [h1]
  unfold wrap64
  omega
theorem tmod_pos {x n : Int} (hn : 1 < n) (h : 0 ≤ x.tmod n) : x.tmod n = x % n := by
  rw [Int.tmod_eq_emod] at h ⊢
  split
  · omega
  · rename_i hx
    rw [if_neg hx, Int.natAbs_of_nonneg (by omega)] at h
    have := Int.emod_lt_of_pos x (b := n) (by omega)
    omega
/-- Only block b and new blocks have turned. -/
abbrev Only (b : Nat) (w w' : World) : Prop := w.grownBy w' (some b)
theorem only_refl (b : Nat) (w : World) : Only b w w := ⟨rfl, rfl, rfl, Nat.le_refl _, fun _ _ _ => rfl⟩
theorem only_trans {b : Nat} {x y z : World} (h : Only b x y) (k : Only b y z) : Only b x z :=
  ⟨k.os.trans h.os, k.tape.trans h.tape, k.output.trans h.output, Nat.le_trans h.size k.size, fun i hi hne => (k.block i (Nat.lt_of_lt_of_le hi h.size) hne).trans (h.block i hi hne)⟩
theorem only_below {b : Nat} {x y : World} (h : Below x.heap.size x y) : Only b x y := ⟨h.os, h.tape, h.output, h.size, fun i hi _ => h.block i hi⟩
theorem only_set {b : Nat} {x y : World} (h : Only b x y) {p : Addr} (hp : p.block = b ∨ x.heap.size ≤ p.block) (v : Value) : Only b x (y.setCell p v) :=
  ⟨h.os, h.tape, h.output, by simpa [World.setCell] using h.size, fun i hi hne => (Below.heap_setCell y p v i (by
    rintro rfl
    rcases hp with hp | hp
    · exact hne (by rw [hp])
    · omega)).trans (h.block i hi hne)⟩
theorem only_al {b : Nat} {x y : World} (h : Only b x y) (o : Obj) : Only b x (y.alloc o) := only_trans h (only_below (bal0 y o))
theorem only_drewN {b : Nat} {x y : World} (h : Only b x y) (n : Nat) : Only b x (y.drewN n) := only_trans h (only_below (below_drewN (Below.refl _ _) n))
theorem only_next {b : Nat} {x y z : World} (h : Only b x y) (k : Below y.heap.size y z) : Only b x z := only_trans h (only_below k)
theorem only_cell {b : Nat} {x y : World} (h : Only b x y) {g o : Nat} {r : Option Value} (hl : g < x.heap.size) (hne : g ≠ b) (hc : x.cell? ⟨g, o, none⟩ = r) : y.cell? ⟨g, o, none⟩ = r :=
  (World.cell?_of_block (w := x) (h.block g hl (by intro e; injection e with e; exact hne e))).trans hc
theorem only_frozen {b : Nat} {x y : World} (h : Only b x y) {g o : Nat} {r : Bool} (hl : g < x.heap.size) (hne : g ≠ b) (hc : x.frozen? ⟨g, o, none⟩ = r) : y.frozen? ⟨g, o, none⟩ = r :=
  (World.frozen?_of_block (w := x) (h.block g hl (by intro e; injection e with e; exact hne e))).trans hc
theorem only_to_below {b B : Nat} {x y : World} (h : Only b x y) (hB : B ≤ b) (hx : B ≤ x.heap.size) : Below B x y :=
  ⟨h.os, h.tape, h.output, h.size, fun i hi => h.block i (by omega) (by intro e; injection e with e; omega)⟩

end
section
open Go.RowKit

theorem cells_new (w : World) (vs : List Value) (t : TypeId) : ∀ (k : Nat) (v : Value), vs[k]? = some v → (w.alloc (.cells vs.toArray t)).cell? ⟨w.heap.size, k, none⟩ = some v := by
  intro k v h
  rw [World.cell?_alloc_new]
  simpa using h
end
end Go.Proofs.YtbfllcfjgpkpaaaGreat
