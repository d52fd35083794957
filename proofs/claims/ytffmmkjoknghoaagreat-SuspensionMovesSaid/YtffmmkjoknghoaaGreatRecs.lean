/-
  Slices of structs: rows of n cells each behind an address; plain lemmas.
-/
import Derived.Test.YtffmmkjoknghoaaGreatOwn
import Derived.Test.YtffmmkjoknghoaaGreatRows
import Derived.Deep.Slices
namespace Go.Proofs.YtffmmkjoknghoaaGreat
open Go.RowKit
/-- Behind A lie rows of n cells each. -/
structure RecsAt (W : World) (A : Option Addr) (n : Nat) (L : List (List Value)) : Prop where
  ln : L.length ≤ 9223372036854775807
  rows : ∀ k r, L[k]? = some r → ∃ b o, A = some ⟨b, o, none⟩ ∧ b < W.heap.size ∧ ∀ j v, r[j]? = some v → W.cell? ⟨b, o + k * n + j, none⟩ = some v
section
variable {W W' : World} {A : Option Addr} {n : Nat} {L : List (List Value)}
theorem RecsAt.below (h : RecsAt W A n L) (hb : Below W.heap.size W W') : RecsAt W' A n L :=
  ⟨h.ln, fun k r hr => by
    obtain ⟨b, o, hA, hlt, hc⟩ := h.rows k r hr
    exact ⟨b, o, hA, Nat.lt_of_lt_of_le hlt hb.size, fun j v hj => (hb.cell (p := ⟨b, _, none⟩) hlt).trans (hc j v hj)⟩⟩
theorem RecsAt.nil (W : World) (n : Nat) (A : Option Addr) : RecsAt W A n [] := ⟨by simp, fun k r h => by simp at h⟩
/-- The block of the rows is not g. -/
def FarA (A : Option Addr) (L : List (List Value)) (g : Nat) : Prop := ∀ (k : Nat) (r : List Value), L[k]? = some r → ∀ ad : Addr, A = some ad → ad.block ≠ g
theorem RecsAt.keep (h : RecsAt W A n L) (hs : W.heap.size ≤ W'.heap.size) (he : ∀ (k : Nat) (r : List Value), L[k]? = some r → ∀ ad : Addr, A = some ad → W'.heap[ad.block]? = W.heap[ad.block]?) : RecsAt W' A n L :=
  ⟨h.ln, fun k r hr => by
    obtain ⟨b, o, hA, hlt, hc⟩ := h.rows k r hr
    exact ⟨b, o, hA, Nat.lt_of_lt_of_le hlt hs, fun j v hj => (World.cell?_of_block (w := W) (a := ⟨b, o + k * n + j, none⟩) (he k r hr ⟨b, o, none⟩ hA)).trans (hc j v hj)⟩⟩
theorem RecsAt.grown {g : Option Nat} (h : RecsAt W A n L) (hg : W.grownBy W' g) (hf : ∀ (k : Nat) (r : List Value), L[k]? = some r → ∀ ad : Addr, A = some ad → g ≠ some ad.block) : RecsAt W' A n L :=
  h.keep hg.size fun k r hr ad hA => by
    obtain ⟨b, o, hA2, hlt, _⟩ := h.rows k r hr
    rw [hA] at hA2
    injection hA2 with e
    subst e
    exact hg.block _ hlt (fun e => hf k r hr _ hA e.symm)
/-- All rows lie in a block below B. -/
def UnderA (A : Option Addr) (L : List (List Value)) (B : Nat) : Prop := ∀ (k : Nat) (r : List Value), L[k]? = some r → ∀ ad : Addr, A = some ad → ad.block < B
theorem RecsAt.under (h : RecsAt W A n L) : UnderA A L W.heap.size := fun k r hr ad hA => by
  obtain ⟨b, o, hA2, hlt, _⟩ := h.rows k r hr
  rw [hA] at hA2
  injection hA2 with e
  subst e
  exact hlt
theorem RecsAt.belowB {B : Nat} (h : RecsAt W A n L) (hu : UnderA A L B) (hb : Below B W W') : RecsAt W' A n L :=
  h.keep hb.size fun k r hr ad hA => hb.block _ (hu k r hr ad hA)
end
/-- A list of rows of n cells, laid one behind the other. -/
theorem flat_get {n : Nat} : ∀ (L : List (List Value)) (k : Nat) (r : List Value), (∀ x ∈ L, x.length = n) → L[k]? = some r → ∀ j v, r[j]? = some v → L.flatten[k * n + j]? = some v
  | [], k, r, _, h, j, v, _ => by simp at h
  | x :: L, 0, r, hn, h, j, v, hj => by
    simp at h
    subst h
    have hl : j < x.length := (List.getElem?_eq_some_iff.1 hj).1
    simp only [List.flatten_cons, Nat.zero_mul, Nat.zero_add]
    rw [List.getElem?_append_left hl]
    exact hj
  | x :: L, k + 1, r, hn, h, j, v, hj => by
    have hx := hn x (by simp)
    have ih := flat_get L k r (fun y hy => hn y (by simp [hy])) (by simpa using h) j v hj
    simp only [List.flatten_cons]
    rw [List.getElem?_append_right (by rw [hx, Nat.succ_mul]; omega), hx, show (k + 1) * n + j - n = k * n + j by rw [Nat.succ_mul]; omega]
    exact ih
theorem flat_len {n : Nat} : ∀ (L : List (List Value)), (∀ x ∈ L, x.length = n) → L.flatten.length = L.length * n
  | [], _ => by simp
  | x :: L, hn => by
    have hx := hn x (by simp)
    have ih := flat_len L (fun y hy => hn y (by simp [hy]))
    simp only [List.flatten_cons, List.length_append, List.length_cons, ih, hx, Nat.succ_mul]
    omega
/-- A slice that a function has made by appending rows reads as these rows. -/
theorem OwnL.recs {W0 W : World} {e : TypeId} {sz : Nat} {v : Value} {n : Nat} {L : List (List Value)} (h : OwnL W0 W e sz v n L.flatten) (hL : ∀ x ∈ L, x.length = sz) (hs : 0 < sz) (hl : L.length ≤ 9223372036854775807) :
    n = L.length ∧ ∃ A cap, v = .slice A n cap ∧ RecsAt W A sz L ∧ (∀ ad, A = some ad → W0.heap.size ≤ ad.block ∧ ad.block < W.heap.size) := by
  have hf := flat_len L hL
  have hx := h.own.1
  have hn : n = L.length := Nat.eq_of_mul_eq_mul_right hs (by omega)
  obtain ⟨A, cap, rfl, hc⟩ := h.read
  refine ⟨hn, A, cap, rfl, ⟨hl, fun k r hr => ?_⟩, fun ad e => ?_⟩
  · have hm : r ∈ L := List.mem_of_getElem? hr
    have hr0 : 0 < r.length := by rw [hL r hm]; exact hs
    obtain ⟨g, hA, hg, _⟩ := hc (k * sz + 0) r[0] (flat_get L k r hL hr 0 _ (List.getElem?_eq_getElem hr0))
    refine ⟨g, 0, hA, hg, fun j u hu => ?_⟩
    obtain ⟨g2, hA2, _, hcell⟩ := hc (k * sz + j) u (flat_get L k r hL hr j u hu)
    rw [hA] at hA2
    injection hA2 with e1
    injection e1 with e2
    subst e2
    rw [Nat.zero_add]
    exact hcell
  · subst e
    exact h.own.lt ad.block rfl
/-- One row more. -/
theorem flat_snoc (L : List (List Value)) (r : List Value) : L.flatten ++ r = (L ++ [r]).flatten := by simp
section
open Go.ChangeShapes Go.WideShapes Go.ChangeAt Go.Deep
variable {H : Type} {enc : TypeId × Value → H}
/-- A slice of structs that came in, read element by element. -/
theorem open_recs {Y : Type} {W : World} {tS tE : TypeId} {A : Option Addr} {len cap : Nat} {d : DataW H} {p : List MemPlace} (cells : Y → List Value) (good : Y → Prop) (n : Nat) (y0 : Y) (hl : ∀ y, (cells y).length = n)
    (hS : Tryz.prog.underlying tS = some (.slice tE)) (hn : Tryz.prog.cellsOf tE = n) (hn0 : 0 < n)
    (hE : ∀ (fuel : Nat) (cs : List Value) (x : DataW H × List MemPlace), DataW.trod enc Tryz.prog W 0 (fun _ => true) true fuel tE cs = some x → cs.length = n → ∃ y, cs = cells y ∧ good y)
    (h : DataW.Trod enc Tryz.prog W 0 (fun _ => true) true tS (.slice A len cap) d p) :
    ∃ L : List Y, len = L.length ∧ RecsAt W A n (L.map cells) ∧ ∀ y ∈ L, good y := by
  obtain ⟨fuel, hf⟩ := h
  rcases open_slice hS hf with ⟨hc, _⟩ | ⟨a, l, c, m, k, D, Pl, hc, _, hle, hcap, hmm, _, hel⟩
  · simp [Value.cells] at hc
    obtain ⟨rfl, rfl, rfl⟩ := hc
    exact ⟨[], rfl, RecsAt.nil _ _ _, fun y hy => by simp at hy⟩
  · simp [Value.cells] at hc
    obtain ⟨rfl, rfl, rfl⟩ := hc
    have hlm : len ≤ m := by rw [hmm]; split <;> omega
    have key : ∀ i, ∃ y : Y, i < len → good y ∧ ∀ j v, (cells y)[j]? = some v → W.cell? (a.add (i * n + j)) = some v := by
      intro i
      by_cases hi : i < len
      · obtain ⟨cs, hcs, ht⟩ := hel i (by omega)
        rw [hn] at hcs
        obtain ⟨_, hcl, hat⟩ := World.cells?_some hcs
        obtain ⟨y, rfl, hy⟩ := hE _ _ _ ht hcl
        refine ⟨y, fun _ => ⟨hy, fun j v hj => ?_⟩⟩
        have hjl : j < (cells y).length := (List.getElem?_eq_some_iff.1 hj).1
        have := hat j (by omega)
        rw [Go.Deep.add_add] at this
        rw [this]
        exact hj
      · exact ⟨y0, fun h => absurd h hi⟩
    obtain ⟨F, hF⟩ : ∃ F : Nat → Y, ∀ i, i < len → good (F i) ∧ ∀ j v, (cells (F i))[j]? = some v → W.cell? (a.add (i * n + j)) = some v := ⟨fun i => (key i).choose, fun i => (key i).choose_spec⟩
    unfold maxLen at hcap
    refine ⟨(List.range len).map F, by simp, ⟨by simp; omega, fun k r hr => ?_⟩, fun y hy => ?_⟩
    · have hk : k < len := by
        have := (List.getElem?_eq_some_iff.1 hr).1
        simpa using this
      have hre : r = cells (F k) := by
        simp [hk] at hr
        exact hr.symm
      subst hre
      obtain ⟨_, hcell⟩ := hF k hk
      have h0 : 0 < (cells (F k)).length := by rw [hl]; exact hn0
      obtain ⟨b, off, spot⟩ := a
      have hc0 := hcell 0 (cells (F k))[0] (List.getElem?_eq_getElem h0)
      have hspot : spot = none := by
        have h00 : 0 < (cells (F 0)).length := by rw [hl]; exact hn0
        have h1 := (hF 0 (by omega)).2 0 (cells (F 0))[0] (List.getElem?_eq_getElem h00)
        rw [Nat.zero_mul] at h1
        exact World.cell?_spot h1
      subst hspot
      rw [Go.WideShapes.add_plain] at hc0
      refine ⟨b, off, rfl, blt hc0, fun j v hj => ?_⟩
      have := hcell j v hj
      rw [Go.WideShapes.add_plain] at this
      rw [← Nat.add_assoc] at this
      exact this
    · simp at hy
      obtain ⟨i, hi, rfl⟩ := hy
      exact (hF i hi).1
end
end Go.Proofs.YtffmmkjoknghoaaGreat
