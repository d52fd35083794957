/-
  The walks of schedules: the document's rules.
  The walks of schedules: the document's exported functions.
-/
import Derived.Test.YtbfllcfjgpkpaaaSchedWalkA
import Derived.Test.YtbfllcfjgpkpaaaSchedWalkG
namespace Go.Proofs.Ytbfllcfjgpkpaaa
section
open Go.RowKit
set_option maxHeartbeats 8000000
set_option linter.unusedVariables false

theorem lastB_bd (p : Int → Bool) (d : Int) (h : 0 ≤ d) : -1 ≤ lastB p d ∧ lastB p d < d := by
  unfold lastB
  cases ht : toP p (d - 1) with
  | none => simp; omega
  | some r => have := toP_spec ht; simp; omega
theorem last_step {p : Int → Bool} {d e : Int} (h0 : 0 ≤ e) (hed : e < d) (hinv : toP p (min e (d - 1)) = toP p (d - 1)) : (p e = true → lastB p d = e) ∧ (p e = false → lastB p d < e ∧ toP p (min (e - 1) (d - 1)) = toP p (d - 1)) := by
  rw [show min e (d - 1) = e by omega] at hinv
  constructor
  · intro hp
    unfold lastB
    rw [← hinv, toP_yes h0 hp]
    rfl
  · intro hp
    rw [toP_no h0 hp] at hinv
    refine ⟨?_, by rw [show min (e - 1) (d - 1) = e - 1 by omega]; exact hinv⟩
    unfold lastB
    rw [← hinv]
    cases ht : toP p (e - 1) with
    | none => simp; omega
    | some r => have := toP_spec ht; simp; omega
end
section
open Go.RowKit
set_option maxHeartbeats 8000000
set_option linter.unusedVariables false
/-- What dealing returns: an error, or none. -/
def DeR (s : SC) (z : ZN) (c : CN) (d e : Int) : Prop :=
  (aErr s z c = e ∧ e ≠ 0) ∨ (aErr s z c = 0 ∧ dayB d = false ∧ e = 50) ∨ (aErr s z c = 0 ∧ dayB d = true ∧ dealB s c d = false ∧ e = 91) ∨ (aErr s z c = 0 ∧ dayB d = true ∧ dealB s c d = true ∧ e = 0)
theorem de_ex (s : SC) (z : ZN) (c : CN) (d : Int) : ∃ e, DeR s z c d e := by
  by_cases h : aErr s z c = 0
  · cases hd : dayB d
    · exact ⟨50, .inr (.inl ⟨h, hd, rfl⟩)⟩
    · cases hv : dealB s c d
      · exact ⟨91, .inr (.inr (.inl ⟨h, hd, hv, rfl⟩))⟩
      · exact ⟨0, .inr (.inr (.inr ⟨h, hd, hv, rfl⟩))⟩
  · exact ⟨_, .inl ⟨rfl, h⟩⟩
/-- What Deadline returns. -/
def DlnR (s : SC) (z : ZN) (c : CN) (d v e : Int) : Prop := (DeR s z c d e ∧ e ≠ 0 ∧ v = 0) ∨ (DeR s z c d 0 ∧ DlR s z c d v e)
theorem dln_ex (s : SC) (z : ZN) (c : CN) (d : Int) : ∃ v e, DlnR s z c d v e := by
  obtain ⟨e, he⟩ := de_ex s z c d
  by_cases h0 : e = 0
  · subst h0
    obtain ⟨v, e, h⟩ := dl_ex s z c d
    exact ⟨v, e, .inr ⟨he, h⟩⟩
  · exact ⟨0, e, .inl ⟨he, h0, rfl⟩⟩
theorem DeR.zero {s : SC} {z : ZN} {c : CN} {d : Int} (h : DeR s z c d 0) : s.ok = true ∧ z.ok = true ∧ c.ok = true ∧ 0 ≤ d ∧ d ≤ 73048 ∧ dealB s c d = true := by
  rcases h with ⟨he, hn⟩ | ⟨he, hd, h⟩ | ⟨he, hd, hv, h⟩ | ⟨he, hd, hv, h⟩
  · exact absurd rfl hn
  · cases h
  · cases h
  · obtain ⟨a1, a2, a3⟩ := aErr_zero he
    obtain ⟨d0, d1⟩ := (dayB_iff d).1 hd
    exact ⟨a1, a2, a3, d0, d1, hv⟩
/-- What Settles returns. -/
def SetR (s : SC) (z : ZN) (c : CN) (d v e : Int) : Prop := (DeR s z c d e ∧ e ≠ 0 ∧ v = 0) ∨ (DeR s z c d 0 ∧ ((stepUp (biz c) s.settle.toNat d = none ∧ v = 0 ∧ e = 81) ∨ (stepUp (biz c) s.settle.toNat d = some v ∧ e = 0)))
theorem set_ex (s : SC) (z : ZN) (c : CN) (d : Int) : ∃ v e, SetR s z c d v e := by
  obtain ⟨e, he⟩ := de_ex s z c d
  by_cases h0 : e = 0
  · subst h0
    cases h : stepUp (biz c) s.settle.toNat d with
    | none => exact ⟨0, 81, .inr ⟨he, .inl ⟨h, rfl, rfl⟩⟩⟩
    | some v => exact ⟨v, 0, .inr ⟨he, .inr ⟨h, rfl⟩⟩⟩
  · exact ⟨0, e, .inl ⟨he, h0, rfl⟩⟩
theorem AddP_of {o : Option Int} {v e : Int} {w w' : World} {en : Ending} (h : AddP o w en w') (hr : (o = none ∧ v = 0 ∧ e = 81) ∨ (o = some v ∧ e = 0)) : RetB (.tuple #[.int .i64 v, .int .i64 e]) w en w' := by
  rcases hr with ⟨rfl, rfl, rfl⟩ | ⟨rfl, rfl⟩
  · exact h
  · exact h
end
end Go.Proofs.Ytbfllcfjgpkpaaa
