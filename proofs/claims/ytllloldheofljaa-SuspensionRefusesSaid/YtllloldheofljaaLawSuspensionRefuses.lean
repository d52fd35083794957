/-
  Move answers with the specified error, or day, for any arguments of moderate size.
-/
import Derived.Test.YtllloldheofljaaSusRef
import Derived.Test.YtllloldheofljaaSusOpen
import Derived.Test.YtllloldheofljaaRow
import Derived.Test.YtllloldheofljaaFacts
namespace Go.Proofs.Ytllloldheofljaa.suspensionRefuses
open Go.ChangeShapes Go.WideShapes Go.ChangeAt Go.RowKit Go.Deep
open Go.ChangeMaps (open_string)
set_option linter.unusedVariables false

set_option maxRecDepth 100000 in
theorem lifted (os : Os) (started : os.Started) (H : Type) (enc : TypeId × Value → H) :
    ReturnsInHanded {} Try.checked os 7 .any (Rows.suspensionRefusesSpec.pre6 enc Try.prog Try.f7 Rows.suspensionRefusesRow.domain false) (Rows.suspensionRefusesSpec.post enc Try.prog Try.f7 false true false false) := by
  refine returnsInHanded_of_change (C := Try.checked) own started (by kernel_rfl) Try.func7
    (ChangeSpec.witness6 (enc := enc) (C := Try.checked) false ⟨#[], #[.slice none 0 0, .int .i64 0, .string ⟨#[]⟩, .agg #[.int .i64 0, .int .i64 0, .int .i64 0, .int .i64 0, .int .i64 0], .agg #[.string ⟨#[]⟩, .int .i64 0, .slice none 0 0], .agg #[.string ⟨#[]⟩, .bool false, .bool false, .bool false, .bool false, .bool false, .bool false, .bool false, .slice none 0 0], .int .i64 0], []⟩ 8 (by kernel_rfl) (by kernel_rfl) (by kernel_rfl) (by kernel_rfl)) ?_
  intro W base args ds gs before hval0 hW hcnd hsz
  have hval : ∀ (j : Nat) t v, Try.f7.params[j]? = some t → args[j]? = some v → Value.okWide Try.prog W .any base t v := hval0
  have hW1 := hW
  obtain ⟨p, q, hA0, hV, _, _, _⟩ := hW1
  have hA : DataW.TrodAll enc Try.prog W 0 (fun _ => true) true Try.f7.params.toList args.toList ds p := hA0
  rw [Try.params7] at hA hval
  obtain ⟨v0, vs0, d0, ds0, p0, q0, hargs, rfl, _, h0, r0⟩ := trodAll_cons hA
  obtain ⟨v1, vs1, d1, ds1, p1, q1, rfl, rfl, _, h1, r1⟩ := trodAll_cons r0
  obtain ⟨v2, vs2, d2, ds2, p2, q2, rfl, rfl, _, h2, r2⟩ := trodAll_cons r1
  obtain ⟨v3, vs3, d3, ds3, p3, q3, rfl, rfl, _, h3, r3⟩ := trodAll_cons r2
  obtain ⟨v4, vs4, d4, ds4, p4, q4, rfl, rfl, _, h4, r4⟩ := trodAll_cons r3
  obtain ⟨v5, vs5, d5, ds5, p5, q5, rfl, rfl, _, h5, r5⟩ := trodAll_cons r4
  obtain ⟨v6, vs6, d6, ds6, p6, q6, rfl, rfl, _, h6, r6⟩ := trodAll_cons r5
  obtain ⟨rfl, rfl, _⟩ := trodAll_nil r6
  obtain rfl : args = #[v0, v1, v2, v3, v4, v5, v6] := by cases args; simp_all
  obtain ⟨rfl, _⟩ := trodVars_none hV
  obtain ⟨A0, len0, cap0, rfl⟩ := okWide_slice Try.underlying59 (hval 0 59 v0 rfl rfl)
  obtain ⟨L0, rfl, ht0⟩ := open_sus h0
  obtain ⟨a1, rfl, -, -, wf1⟩ := open_int Try.underlying3 (hval 1 3 v1 rfl rfl) h1
  obtain ⟨s2, rfl, -, -, ws2⟩ := open_string Try.underlying9 (hval 2 9 v2 rfl rfl) h2
  obtain ⟨cs3, rfl, _⟩ := okWide_struct Try.underlying38 (hval 3 38 v3 rfl rfl)
  obtain ⟨fu3, hf3⟩ := h3
  obtain ⟨s3, hc3⟩ := open_sched hf3
  obtain rfl : cs3 = sV s3 := Array.toList_inj.1 hc3
  obtain ⟨cs4, rfl, _⟩ := okWide_struct Try.underlying28 (hval 4 28 v4 rfl rfl)
  obtain ⟨fu4, hf4⟩ := h4
  obtain ⟨z4, A4, c4, hc4, hz4⟩ := open_zone hf4
  obtain rfl : cs4 = #[.string z4.name, .int .i64 z4.off, .slice A4 z4.cs.length c4] := by cases cs4; simpa [Value.cells] using hc4
  obtain ⟨cs5, rfl, _⟩ := okWide_struct Try.underlying31 (hval 5 31 v5 rfl rfl)
  obtain ⟨fu5, hf5⟩ := h5
  obtain ⟨c5, A5, k5, hc5, hk5⟩ := open_cal hf5
  obtain rfl : cs5 = cV c5 A5 k5 := Array.toList_inj.1 hc5
  obtain ⟨a6, rfl, -, -, wf6⟩ := open_int Try.underlying3 (hval 6 3 v6 rfl rfl) h6
  refine (suspensionRefuses_any L0 A0 cap0 a1 s2 s3 z4 A4 c4 c5 A5 k5 a6 W ht0 ws2 hz4 hk5).mono fun e W' h => ?_
  exact law_post rfl rfl (by kernel_rfl) rfl hW h

set_option maxHeartbeats 8000000 in
theorem closed : joinedFacts Try.prog 7 Try.f7 Rows.suspensionRefusesSpec Rows.suspensionRefusesRow = true := by
  unfold joinedFacts
  simp only [Bool.and_eq_true]
  repeat' apply And.intro
  · (as_aux_lemma => kernel_rfl)
  · exact laidOut
  · (as_aux_lemma => kernel_rfl)
  · (as_aux_lemma => kernel_rfl)
  · (as_aux_lemma => kernel_rfl)
  · (as_aux_lemma => kernel_rfl)
  · (as_aux_lemma => kernel_rfl)
  · (as_aux_lemma => kernel_rfl)
  · (as_aux_lemma => kernel_rfl)
  · (as_aux_lemma => kernel_rfl)
  · (as_aux_lemma => kernel_rfl)
  · (as_aux_lemma => kernel_rfl)
  · (as_aux_lemma => kernel_rfl)
  · (as_aux_lemma => kernel_rfl)
  · (as_aux_lemma => kernel_rfl)
  · (as_aux_lemma => kernel_rfl)
  · (as_aux_lemma => kernel_rfl)
  · (as_aux_lemma => kernel_rfl)
  · (as_aux_lemma => kernel_rfl)
  · (as_aux_lemma => kernel_rfl)
  · (as_aux_lemma => kernel_rfl)
  · (as_aux_lemma => kernel_rfl)
  · (as_aux_lemma => kernel_rfl)
  · (as_aux_lemma => kernel_rfl)
  · (as_aux_lemma => kernel_rfl)
  · exact mayEnter_eq
  · rw [liftsFinal_eq]; rfl
  · rw [make_eq]; rfl
  · (as_aux_lemma => kernel_rfl)
  · (as_aux_lemma => kernel_rfl)
  · (as_aux_lemma => kernel_rfl)
  · (as_aux_lemma => kernel_rfl)

theorem over : Rows.suspensionRefusesRow.holds Try.pinned (OpenSpec.ofChange Rows.suspensionRefusesSpec) :=
  OpenClaim.holds_of_wide 7 Try.f7 rfl rfl rfl rfl rfl rfl rfl ⟨rfl, rfl, rfl, rfl, rfl⟩ rfl rfl rfl rfl rfl (by kernel_rfl) Try.func7 closed
    (of_decide_eq_true (by kernel_rfl)) (by unfold Func.isWrapper; first | (rw [if_pos (by decide +kernel)]; kernel_rfl) | (rw [if_neg (by decide +kernel)]; exact ⟨rfl, rfl⟩))
    (fun os started H enc _ => lifted os started H enc)

/-- The statement. -/
theorem proved : Rows.SuspensionRefusesSaid := over
#print axioms proved
end Go.Proofs.Ytllloldheofljaa.suspensionRefuses
