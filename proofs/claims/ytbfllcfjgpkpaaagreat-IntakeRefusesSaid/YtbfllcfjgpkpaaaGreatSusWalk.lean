/-
  Suspensions: single ones, the program's and the document's; lists.
  Suspensions: lists, checked.
  Suspensions: the document's check of a list.
-/
import Derived.Test.YtbfllcfjgpkpaaaGreatMem
import Derived.Test.YtbfllcfjgpkpaaaGreatZoneWalk
import Derived.Test.YtbfllcfjgpkpaaaGreatMake
import Derived.Deep.DeepCutAuto
import Derived.Deep.CutBlock
import Derived.Deep.RegionHeld3
import Derived.IntWalk
namespace Go.Proofs.YtbfllcfjgpkpaaaGreat
section
open Go.RowKit
set_option linter.unusedVariables false
set_option maxHeartbeats 2000000
section
theorem suQ {W : World} {b : Nat} {x : SU} {t : TypeId} (h : BlkAt W b (suV x) t) : W.cell? ⟨b, 0, none⟩ = some (.string x.key) ∧ W.cell? ⟨b, 1, none⟩ = some (.string x.fund) ∧ W.cell? ⟨b, 2, none⟩ = some (.int .i64 x.frm) ∧ W.cell? ⟨b, 3, none⟩ = some (.int .i64 x.til) ∧ W.cell? ⟨b, 4, none⟩ = some (.int .i64 x.known) ∧ W.cell? ⟨b, 5, none⟩ = some (.bool x.void) :=
  ⟨h.cell rfl, h.cell rfl, h.cell rfl, h.cell rfl, h.cell rfl, h.cell rfl⟩
/-- What the callee that judges a name promises. -/
def NameC (f : FuncId) : Prop := ∀ (s : ByteArray) (b : Bool), nmB s = b → s.size ≤ maxLen → ∀ w, Calls Tryz.prog f #[.string s] w (RetB (.bool b) w)
end
end
section
open Go.RowKit
set_option linter.unusedVariables false
set_option maxHeartbeats 4000000
/-- The number of the record before place i. -/
def prevK (l : List SU) (i : Nat) : Int := if i = 0 then 0 else match l[i - 1]? with | some x => x.known | none => 0
theorem prevK_succ {l : List SU} {i : Nat} {x : SU} (h : l[i]? = some x) : prevK l (i + 1) = x.known := by
  unfold prevK
  rw [if_neg (by omega), Nat.add_sub_cancel, h]
theorem susFrom_drop (l : List SU) {i : Nat} {x : SU} (hx : l[i]? = some x) (last : Int) : susFrom last (l.drop i) = (x.ok && decide (last < x.known) && susFrom x.known (l.drop (i + 1))) := by
  have hl := List.getElem?_eq_some_iff.1 hx
  obtain ⟨hl, e⟩ := hl
  rw [List.drop_eq_getElem_cons hl, e]
  rfl
theorem SU.ok_known {x : SU} (h : x.ok = true) : 1 ≤ x.known := by
  unfold SU.ok at h
  simp only [Bool.and_eq_true] at h
  exact ((knB_iff _).1 h.1.2).1
end
section
open Go.RowKit
set_option linter.unusedVariables false
set_option maxHeartbeats 4000000
theorem SuAt.q {W : World} {b o i : Nat} {x : SU} {l : List SU} (h : SuAt W (some ⟨b, o, none⟩) l) (hx : l[i]? = some x) : W.cell? ⟨b, o + i * 6, none⟩ = some (.string x.key) ∧ W.cell? ⟨b, o + i * 6 + 1, none⟩ = some (.string x.fund) ∧ W.cell? ⟨b, o + i * 6 + 2, none⟩ = some (.int .i64 x.frm) ∧
    W.cell? ⟨b, o + i * 6 + 3, none⟩ = some (.int .i64 x.til) ∧ W.cell? ⟨b, o + i * 6 + 4, none⟩ = some (.int .i64 x.known) ∧ W.cell? ⟨b, o + i * 6 + 5, none⟩ = some (.bool x.void) := by
  obtain ⟨b2, o2, z, e, hz, -, -, h0, h1, h2, h3, h4, h5⟩ := h.get (i := i) (List.getElem?_eq_some_iff.1 hx).1
  injection e with e
  injection e with e1 e2
  subst e1 e2
  rw [hx] at hz
  injection hz with hz
  subst hz
  exact ⟨h0, h1, h2, h3, h4, h5⟩
theorem SuAt.q2 {W : World} {b o i j : Nat} {x y : SU} {l : List SU} (h : SuAt W (some ⟨b, o, none⟩) l) (hx : l[i]? = some x) (hy : l[j]? = some y) : (W.cell? ⟨b, o + i * 6, none⟩ = some (.string x.key) ∧ W.cell? ⟨b, o + i * 6 + 1, none⟩ = some (.string x.fund) ∧ W.cell? ⟨b, o + i * 6 + 2, none⟩ = some (.int .i64 x.frm) ∧
    W.cell? ⟨b, o + i * 6 + 3, none⟩ = some (.int .i64 x.til) ∧ W.cell? ⟨b, o + i * 6 + 4, none⟩ = some (.int .i64 x.known) ∧ W.cell? ⟨b, o + i * 6 + 5, none⟩ = some (.bool x.void)) ∧ W.cell? ⟨b, o + j * 6 + 4, none⟩ = some (.int .i64 y.known) ∧ SuAt W (some ⟨b, o, none⟩) l := ⟨h.q hx, (h.q hy).2.2.2.2.1, h⟩
end
end Go.Proofs.YtbfllcfjgpkpaaaGreat
