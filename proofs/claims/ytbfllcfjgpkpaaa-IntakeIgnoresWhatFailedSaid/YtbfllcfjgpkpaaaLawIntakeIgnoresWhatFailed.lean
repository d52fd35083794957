/-
  IntakeIgnoresWhatFailed: for every tape of numbers, without the versions that are Late, Contradictory, Idle or Repeated the same orders are taken, and the versions that are Accepted and not Void are as many as the orders that are taken; no condition.
-/
import Derived.Test.YtbfllcfjgpkpaaaIntIgnores
import Derived.Test.YtbfllcfjgpkpaaaRow
import Derived.Test.YtbfllcfjgpkpaaaFacts
namespace Go.Proofs.Ytbfllcfjgpkpaaa.intakeIgnoresWhatFailed
open Go.ChangeShapes Go.WideShapes Go.ChangeAt Go.RowKit Go.Deep
open Go.ChangeMaps (open_string)
set_option linter.unusedVariables false

set_option maxRecDepth 100000 in
theorem lifted (os : Os) (started : os.Started) (H : Type) (enc : TypeId × Value → H) :
    ReturnsInHanded {} Try.checked os 4 .any (Rows.intakeIgnoresWhatFailedSpec.pre6 enc Try.prog Try.f4 Rows.intakeIgnoresWhatFailedRow.domain false) (Rows.intakeIgnoresWhatFailedSpec.post enc Try.prog Try.f4 false true false false) := by
  refine returnsInHanded_of_change (C := Try.checked) own started (by kernel_rfl) Try.func4
    (ChangeSpec.witness6 (enc := enc) (C := Try.checked) false ⟨#[], #[.slice none 0 0], []⟩ 8 (by kernel_rfl) (by kernel_rfl) (by kernel_rfl) (by kernel_rfl)) ?_
  intro W base args ds gs before hval0 hW hcnd hsz
  have hval : ∀ (j : Nat) t v, Try.f4.params[j]? = some t → args[j]? = some v → Value.okWide Try.prog W .any base t v := hval0
  have hW1 := hW
  obtain ⟨p, q, hA0, hV, _, _, _⟩ := hW1
  have hA : DataW.TrodAll enc Try.prog W 0 (fun _ => true) true Try.f4.params.toList args.toList ds p := hA0
  rw [Try.params4] at hA hval
  obtain ⟨v0, vs0, d0, ds0, p0, q0, hargs, rfl, _, h0, r0⟩ := trodAll_cons hA
  obtain ⟨rfl, rfl, _⟩ := trodAll_nil r0
  obtain rfl : args = #[v0] := by cases args; simp_all
  obtain ⟨rfl, _⟩ := trodVars_none hV
  obtain ⟨A0, len0, cap0, rfl⟩ := okWide_slice Try.underlying22 (hval 0 22 v0 rfl rfl)
  obtain ⟨L0, rfl, ht0⟩ := open_ints1 h0
  refine (intakeIgnores_any A0 L0 cap0 W ht0).mono fun e W' h => ?_
  exact law_post rfl rfl (by kernel_rfl) rfl hW h

set_option maxHeartbeats 8000000 in
theorem closed : joinedFacts Try.prog 4 Try.f4 Rows.intakeIgnoresWhatFailedSpec Rows.intakeIgnoresWhatFailedRow = true := by
  unfold joinedFacts
  simp only [Bool.and_eq_true]
  repeat' apply And.intro
  · (as_aux_lemma => kernel_rfl)
  · exact laidOut
  · (as_aux_lemma => kernel_rfl)
  · (as_aux_lemma => kernel_rfl)
  · (as_aux_lemma => kernel_rfl)
  · (as_aux_lemma => kernel_rfl)
  · (as_aux_lemma => kernel_rfl)
  · (as_aux_lemma => kernel_rfl)
  · (as_aux_lemma => kernel_rfl)
  · (as_aux_lemma => kernel_rfl)
  · (as_aux_lemma => kernel_rfl)
  · (as_aux_lemma => kernel_rfl)
  · (as_aux_lemma => kernel_rfl)
  · (as_aux_lemma => kernel_rfl)
  · (as_aux_lemma => kernel_rfl)
  · (as_aux_lemma => kernel_rfl)
  · (as_aux_lemma => kernel_rfl)
  · (as_aux_lemma => kernel_rfl)
  · (as_aux_lemma => kernel_rfl)
  · (as_aux_lemma => kernel_rfl)
  · (as_aux_lemma => kernel_rfl)
  · (as_aux_lemma => kernel_rfl)
  · (as_aux_lemma => kernel_rfl)
  · (as_aux_lemma => kernel_rfl)
  · (as_aux_lemma => kernel_rfl)
  · exact mayEnter_eq
  · rw [liftsFinal_eq]; rfl
  · rw [make_eq]; rfl
  · (as_aux_lemma => kernel_rfl)
  · (as_aux_lemma => kernel_rfl)
  · (as_aux_lemma => kernel_rfl)
  · (as_aux_lemma => kernel_rfl)

theorem over : Rows.intakeIgnoresWhatFailedRow.holds Try.pinned (OpenSpec.ofChange Rows.intakeIgnoresWhatFailedSpec) :=
  OpenClaim.holds_of_wide 4 Try.f4 rfl rfl rfl rfl rfl rfl rfl ⟨rfl, rfl, rfl, rfl, rfl⟩ rfl rfl rfl rfl rfl (by kernel_rfl) Try.func4 closed
    (of_decide_eq_true (by kernel_rfl)) (by unfold Func.isWrapper; first | (rw [if_pos (by decide +kernel)]; kernel_rfl) | (rw [if_neg (by decide +kernel)]; exact ⟨rfl, rfl⟩))
    (fun os started H enc _ => lifted os started H enc)

/-- The statement. -/
theorem proved : Rows.IntakeIgnoresWhatFailedSaid := over
#print axioms proved
end Go.Proofs.Ytbfllcfjgpkpaaa.intakeIgnoresWhatFailed
