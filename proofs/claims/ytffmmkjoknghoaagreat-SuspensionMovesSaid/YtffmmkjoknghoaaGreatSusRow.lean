/-
  How suspensions and marks lie in memory.
-/
import Derived.Test.YtffmmkjoknghoaaGreatSusPlain
import Derived.Test.YtffmmkjoknghoaaGreatRecs
namespace Go.Proofs.YtffmmkjoknghoaaGreat
open Go.RowKit
def suV (x : SU) : Array Value := #[.string x.key, .string x.fund, .int .i64 x.frm, .int .i64 x.til, .int .i64 x.known, .bool x.void]
def mkV (m : MK) : Array Value := #[.string m.key, .int .i64 m.known, .bool m.void]
theorem rowSus : RowT Tryz.prog 77 6 := ⟨⟨_, Tryz.underlying77, rfl⟩, by kernel_rfl⟩
theorem rowMark : RowT Tryz.prog 119 3 := ⟨⟨_, Tryz.underlying119, rfl⟩, by kernel_rfl⟩
theorem rowSu (x : SU) : RowV Tryz.prog 77 (suV x) := ⟨rowSus, by simp [suV, Value.oneCell']⟩
theorem rowMk (m : MK) : RowV Tryz.prog 119 (mkV m) := ⟨rowMark, by simp [mkV, Value.oneCell']⟩
def SU.small (x : SU) : Prop := x.key.size ≤ maxLen ∧ x.fund.size ≤ maxLen
/-- A list of suspensions lies behind A. -/
structure SuAt (W : World) (A : Option Addr) (l : List SU) : Prop where
  recs : RecsAt W A 6 (l.map fun x => (suV x).toList)
  small : ∀ x ∈ l, x.small
theorem SuAt.below {W W' : World} {A : Option Addr} {l : List SU} (h : SuAt W A l) (hb : Below W.heap.size W W') : SuAt W' A l := ⟨h.recs.below hb, h.small⟩
theorem SuAt.ln {W : World} {A : Option Addr} {l : List SU} (h : SuAt W A l) : l.length ≤ 9223372036854775807 := by simpa using h.recs.ln
/-- The cells of one of them. -/
theorem SuAt.get {W : World} {A : Option Addr} {l : List SU} (h : SuAt W A l) {i : Nat} (hi : i < l.length) : ∃ b o x, A = some ⟨b, o, none⟩ ∧ l[i]? = some x ∧ b < W.heap.size ∧ x.small ∧
    W.cell? ⟨b, o + i * 6, none⟩ = some (.string x.key) ∧ W.cell? ⟨b, o + i * 6 + 1, none⟩ = some (.string x.fund) ∧ W.cell? ⟨b, o + i * 6 + 2, none⟩ = some (.int .i64 x.frm) ∧
    W.cell? ⟨b, o + i * 6 + 3, none⟩ = some (.int .i64 x.til) ∧ W.cell? ⟨b, o + i * 6 + 4, none⟩ = some (.int .i64 x.known) ∧ W.cell? ⟨b, o + i * 6 + 5, none⟩ = some (.bool x.void) := by
  have hx : l[i]? = some l[i] := List.getElem?_eq_getElem hi
  obtain ⟨b, o, hA, hlt, hc⟩ := h.recs.rows i (suV l[i]).toList (by rw [List.getElem?_map, hx]; rfl)
  exact ⟨b, o, l[i], hA, hx, hlt, h.small _ (List.getElem_mem hi), hc 0 _ rfl, hc 1 _ rfl, hc 2 _ rfl, hc 3 _ rfl, hc 4 _ rfl, hc 5 _ rfl⟩
/-- A list of marks lies behind A. -/
structure MkAt (W : World) (A : Option Addr) (l : List MK) : Prop where
  recs : RecsAt W A 3 (l.map fun x => (mkV x).toList)
  small : ∀ x ∈ l, x.key.size ≤ maxLen
theorem MkAt.below {W W' : World} {A : Option Addr} {l : List MK} (h : MkAt W A l) (hb : Below W.heap.size W W') : MkAt W' A l := ⟨h.recs.below hb, h.small⟩
theorem MkAt.ln {W : World} {A : Option Addr} {l : List MK} (h : MkAt W A l) : l.length ≤ 9223372036854775807 := by simpa using h.recs.ln
theorem MkAt.get {W : World} {A : Option Addr} {l : List MK} (h : MkAt W A l) {i : Nat} (hi : i < l.length) : ∃ b o x, A = some ⟨b, o, none⟩ ∧ l[i]? = some x ∧ b < W.heap.size ∧ x.key.size ≤ maxLen ∧
    W.cell? ⟨b, o + i * 3, none⟩ = some (.string x.key) ∧ W.cell? ⟨b, o + i * 3 + 1, none⟩ = some (.int .i64 x.known) ∧ W.cell? ⟨b, o + i * 3 + 2, none⟩ = some (.bool x.void) := by
  have hx : l[i]? = some l[i] := List.getElem?_eq_getElem hi
  obtain ⟨b, o, hA, hlt, hc⟩ := h.recs.rows i (mkV l[i]).toList (by rw [List.getElem?_map, hx]; rfl)
  exact ⟨b, o, l[i], hA, hx, hlt, h.small _ (List.getElem_mem hi), hc 0 _ rfl, hc 1 _ rfl, hc 2 _ rfl⟩
end Go.Proofs.YtffmmkjoknghoaaGreat
