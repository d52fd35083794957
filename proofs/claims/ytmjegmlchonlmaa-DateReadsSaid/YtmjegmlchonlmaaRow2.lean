/-
  A slice of integers that came in; the tape that a law lays over it.
-/
import Derived.Test.YtmjegmlchonlmaaRow
import Derived.Test.YtmjegmlchonlmaaMake
namespace Go.Proofs.Ytmjegmlchonlmaa
open Go.ChangeShapes Go.WideShapes Go.ChangeAt Go.RowKit Go.Deep

/-- A list of integers lies behind the address A. -/
def IntsAt (W : World) (A : Option Addr) (L : List Int) : Prop :=
  L.length ≤ 9223372036854775807 ∧ ∀ k x, L[k]? = some x → ∃ bb o, A = some ⟨bb, o, none⟩ ∧ bb < W.heap.size ∧ W.cell? ⟨bb, o + k, none⟩ = some (.int .i64 x)
theorem IntsAt.below {W W' : World} {A : Option Addr} {L : List Int} (h : IntsAt W A L) (hb : Below W.heap.size W W') : IntsAt W' A L :=
  ⟨h.1, fun k x hx => by
    obtain ⟨bb, o, hA, hlt, hc⟩ := h.2 k x hx
    exact ⟨bb, o, hA, Nat.lt_of_lt_of_le hlt hb.size, (hb.cell (p := ⟨bb, _, none⟩) hlt).trans hc⟩⟩

section
variable {H : Type} {enc : TypeId × Value → H}
theorem open_ints1 {W : World} {A : Option Addr} {len cap : Nat} {d : DataW H} {p : List MemPlace} (h : DataW.Trod enc Try.prog W 0 (fun _ => true) true 34 (.slice A len cap) d p) :
    ∃ L : List Int, len = L.length ∧ IntsAt W A L := by
  obtain ⟨fuel, hf⟩ := h
  rcases open_ints Try.underlying34 Try.underlying3 (by kernel_rfl) hf with ⟨hcs, _⟩ | ⟨x, l, c, zs, hcs, _, hl, hm, hz, _, hcell, hwz⟩
  · simp [Value.cells] at hcs
    obtain ⟨rfl, rfl, rfl⟩ := hcs
    exact ⟨[], rfl, by simp, fun k x hx => by simp at hx⟩
  · simp [Value.cells] at hcs
    obtain ⟨rfl, rfl, rfl⟩ := hcs
    have hzl : zs.length = cap := by simpa using hz
    unfold maxLen at hm
    refine ⟨zs.take len, by simp; omega, by simp; omega, fun k y hk => ?_⟩
    have hk1 : k < len := by
      have := (List.getElem?_eq_some_iff.1 hk).1
      simp at this
      omega
    obtain ⟨b, off, rfl, hc⟩ := ints_at hcell (by omega)
    have hck := hc k (by omega)
    have hy : zs.getD k 0 = y := by
      rw [List.getElem?_take_of_lt hk1] at hk
      simp [List.getD, hk]
    rw [hy] at hck
    exact ⟨b, off, rfl, blt hck, hck⟩
end

/-- The tape over the list, as a law lays it. -/
theorem tape_start {w : World} {A : Option Addr} {L : List Int} {cap : Nat} (h : IntsAt w A L) :
    TapeAt (w.alloc (.cells #[.slice A L.length cap, .int .i64 0] 37)) w.heap.size w.heap.size 1000000000 :=
  ⟨Nat.le_refl _, A, L, cap, 0, h.1, by omega, heap_alloc_new w _, fun k x hx => by
    obtain ⟨bb, o, hA, hlt, hc⟩ := h.2 k x hx
    exact ⟨bb, o, hA, hlt, cell_al _ hlt hc⟩⟩
end Go.Proofs.Ytmjegmlchonlmaa
