/-
  QuoteLines: for every text, number and quote that are together of bulk at most 1048576 the program and the document agree on what the line says and on the line of the quote; the variables listed in the row are as the library lays them; no other condition.
-/
import Derived.Test.YteaahhokaffmdaaGreatDoorPt17
import Derived.WalkKit
import Derived.ProofKit
import Derived.OpenShut
import Derived.Lib.Hide
import Derived.WalkLawsBesides
import Derived.WalkSpells
import Derived.BigQuiet
import Derived.Deep.QuietTactic
import Derived.Deep.MidRow
import Derived.Deep.WholeRow
import Derived.Test.YteaahhokaffmdaaGreatDoorRows
import Derived.BigRegion
import Derived.Deep.RegionHeld3
import Derived.Deep.DeepCutAuto
import Derived.Deep.CutBlock
import Derived.Laws.BitsAllLaws
import Derived.Deep.Slices
import Derived.Orders
import Derived.RegionTactic
import Derived.Deep.RegionWith
import Derived.Laws.AppendOwn
import Derived.OwnWalk
import Derived.Deep.RegionLaw
import Derived.Deep.DrawnRows
import Derived.StillTailTactics
import Derived.Lib.ItoaNum
import Derived.Shelf.Strings.Builder1
import Derived.Shelf.Strings.Builder2
import Derived.Shelf.Strings.OnBuilder
import Derived.Shelf.Strings.Trim
import Derived.Shelf.Small.Utf8
import Derived.Shelf.Small.Bits
import Derived.Shelf.Small.Strs
import Derived.Shelf.Small.Wraps
import Derived.Shelf.Strings.BuilderF
import Derived.Shelf.Strconv.Atoi
import Derived.Shelf.Strconv.Itoa0
import Derived.Shelf.Strconv.Itoa1
import Derived.Shelf.LaysM
import Derived.Shelf.Strconv.Itoa2
import Derived.Shelf.Strconv.Itoa3
import Derived.Shelf.Strconv.AtoiErrFast
import Derived.Shelf.Strconv.ParseIntEmpty
import Derived.Shelf.Strconv.AtoiFail
import Derived.Shelf.Strconv.Clone
import Derived.Shelf.Strconv.SyntaxError
import Derived.Shelf.LaysC
import Derived.Shelf.Strconv.ToError
import Derived.Shelf.Strconv.Lower
import Derived.Shelf.Strconv.ParseUint10
import Derived.Shelf.Strconv.ParseUint10Empty
import Derived.Shelf.Strconv.ParseUint10Any
import Derived.Shelf.Strconv.ParseInt10
import Derived.Shelf.Strconv.AtoiLong
import Derived.Shelf.Strconv.AtoiInnerAll
import Derived.Shelf.Strconv.RangeError
import Derived.Shelf.Strconv.ToErrorRange
import Derived.Shelf.Strconv.AtoiAll
import Derived.Shelf.Strings.Search1
import Derived.Shelf.Strings.Search2
import Derived.Shelf.Strings.Cut
import Derived.Shelf.Strings.Shaped
import Derived.Shelf.Strings.Prefix
import Derived.Shelf.Strings.Runes
import Derived.Shelf.Strings.AsciiSet
import Derived.Shelf.Bits.Mul64
import Derived.Shelf.Strings.Repeat
import Derived.Shelf.Unicode.DecodeSlow
import Derived.Test.YteaahhokaffmdaaGreatDoorProg
import Derived.Deep.OwnRows
import Derived.Great.BuildSlice
import Derived.Lib.SmallJoins
import Derived.Lib.SlBytesRow
import Derived.Lib.IndexLaws
import Derived.Laws.RangeString
import Derived.Lib.Strings
import Derived.Laws.RangeAny
import Derived.Lib.SlBytesConst
import Derived.IntWalk
import Derived.Shelf.Sort.Plain
import Derived.Shelf.Slices.In.SortNone
import Derived.Maps.OwnSet
import Derived.Maps.OwnOps
import Derived.Maps.RangeWalk
import Derived.Maps.AppendAt
import Derived.Deep.AppendLies
import Derived.Sort.KeysCollected
import Derived.Sort.OwnSorted
import Derived.Sort.OwnSortedInts
import Derived.Lib.ConvBytes
import Derived.Deep.Fields
import Derived.Deep.Strs
import Derived.ShutString
import Derived.ChangeOld
import Derived.LaidMore
import Derived.Stop.Joined
import Derived.SevenTiedAt
import Derived.Test.YteaahhokaffmdaaGreatDoorTie
import Derived.Lay
import Derived.LaidOnce
import Derived.SizedLaws
import Derived.Test.YteaahhokaffmdaaGreatDoorCards
import Derived.KernelRfl
import Derived.Deep.DeepHandedRow
import Derived.JoinedCond
namespace Go.Proofs.YteaahhokaffmdaaGreatDoor.quoteLines
open Go.ChangeShapes Go.WideShapes Go.ChangeAt Go.RowKit Go.Deep
open Go.ChangeMaps (open_string)
set_option linter.unusedVariables false

set_option maxHeartbeats 4000000 in
def wQuo : Value := .agg #[.string ⟨#[]⟩, .string ⟨#[]⟩, .string ⟨#[]⟩, .int .i64 0, .bool false, .int .u32 0, .int .u32 0, .int .u32 0, .int .u32 0, .int .u32 0, .int .u32 0, .int .u32 0, .int .u32 0, .int .u32 0, .int .u32 0, .int .u32 0, .int .u32 0, .int .u32 0, .int .u32 0, .int .u32 0, .int .u32 0, .int .u32 0, .int .u32 0, .int .u32 0, .int .u32 0, .int .u32 0, .int .u32 0, .int .u32 0, .int .u32 0, .int .u32 0, .int .u32 0, .int .u32 0, .int .u32 0, .int .u32 0, .int .u32 0, .int .u32 0, .int .u32 0, .bool false, .int .u32 0, .int .u32 0, .int .u32 0, .int .u32 0, .int .u32 0, .int .u32 0, .int .u32 0, .int .u32 0, .int .u32 0, .int .u32 0, .int .u32 0, .int .u32 0, .int .u32 0, .int .u32 0, .int .u32 0, .int .u32 0, .int .u32 0, .int .u32 0, .int .u32 0, .int .u32 0, .int .u32 0, .int .u32 0, .int .u32 0, .int .u32 0, .int .u32 0, .int .u32 0, .int .u32 0, .int .u32 0, .int .u32 0, .int .u32 0, .int .u32 0, .int .u32 0, .int .i64 0, .bool false]
/-- How the witness reads. -/
def rInt (H : Type) : DataW H := .agg [.lit (.bool false), .agg (List.replicate 32 (.lit (.int .u32 0)))]
def rQuo (H : Type) : DataW H := .agg [.lit (.string []), .lit (.string []), .lit (.string []), .lit (.int .i64 0), .agg [rInt H, rInt H], .lit (.int .i64 0), .lit (.bool false)]
/-- What the bound gives: the text's length. -/
theorem short {H : Type} {l : List UInt8} {r gs : List (DataW H)} (hk : Rows.uptoSmall H ((.lit (.string l) :: r) ++ gs) = true) : l.length ≤ 1048576 := by
  have h : Rows.uptoBulkAll ((DataW.lit (H := H) (.string l) :: r) ++ gs) ≤ 1048576 := of_decide_eq_true hk
  rw [List.cons_append] at h
  simp only [Rows.uptoBulkAll, Rows.uptoBulk] at h
  omega
theorem door (os : Os) (args : Array Value) : laidMetH Tryz.prog Rows.quoteLinesUptoRow.laid ((World.laidAll Tryz.prog os laid7).forCall (fun _ _ => 0) ⟨#[], args, []⟩).memory := door7 os args
set_option maxHeartbeats 8000000 in
set_option maxRecDepth 100000 in
theorem lifted (os : Os) (started : os.Started) (H : Type) (enc : TypeId × Value → H) (Fs : Stop.Interp) :
    ReturnsInHanded {} Tryz.checked os 6 .any ((Rows.OpenSpec.upto Rows.quoteLinesSpec).preRow enc Tryz.prog Tryz.f6 Rows.quoteLinesUptoRow.domain false Rows.quoteLinesUptoRow.laid) (((Rows.OpenSpec.upto Rows.quoteLinesSpec).at Fs).post enc Tryz.prog Tryz.f6 false true false false) := by
  have hx : DataW.whole enc Tryz.prog ((World.laidAll Tryz.prog os laid7).forCall (fun _ _ => 0) ⟨#[], #[.string ⟨#[]⟩, .int .i64 0, wQuo], []⟩).memory Tryz.f6.params.toList Rows.quoteLinesSpec.vars false #[.string ⟨#[]⟩, .int .i64 0, wQuo].toList 8 = some ([.lit (.string []), .lit (.int .i64 0), rQuo H], [], []) := by kernel_rfl
  have hok : Input.okWideB Tryz.prog ((World.laidAll Tryz.prog os laid7).forCall (fun _ _ => 0) ⟨#[], #[.string ⟨#[]⟩, .int .i64 0, wQuo], []⟩) 6 ⟨#[], #[.string ⟨#[]⟩, .int .i64 0, wQuo], []⟩ = true := by kernel_rfl
  refine returnsInHanded_of_row (C := Tryz.checked) (s := Rows.OpenSpec.upto Rows.quoteLinesSpec) own started (by kernel_rfl) Tryz.func6
    ⟨World.laidAll Tryz.prog os laid7, fun _ _ => 0, ⟨#[], #[.string ⟨#[]⟩, .int .i64 0, wQuo], []⟩, World.laidAll_os _ _ _, World.shaped_of_ZipB (by kernel_rfl) (by kernel_rfl), (Input.okWide_of_okWideB (base := 0) hok).1, (Input.okWide_of_okWideB hok).2,
      OpenSpec.preRow_of_cond 8 hx (by kernel_rfl) (fun k hk => by cases hk; kernel_rfl) (by kernel_rfl) (door os _), by
        simp only [Assume.holds]
        exact ⟨by simp, by simp, fun _ => Modest.zero, by simp, by simp⟩⟩ ?_
  intro W base args ds gs before hval0 hW _ hcond hz hL _ _
  have hk := hcond _ rfl
  have hval : ∀ (j : Nat) t v, Tryz.f6.params[j]? = some t → args[j]? = some v → Value.okWide Tryz.prog W .any base t v := hval0
  have hW1 := hW
  obtain ⟨p, q, hA0, hV, _, _, _⟩ := hW1
  have hA : DataW.TrodAll enc Tryz.prog W 0 (fun _ => true) true Tryz.f6.params.toList args.toList ds p := hA0
  rw [Tryz.params6] at hA hval
  obtain ⟨v0, vs0, d0, ds0, pp0, qq0, hargs, rfl, _, h0, r0⟩ := trodAll_cons hA
  obtain ⟨v1, vs1, d1, ds1, pp1, qq1, rfl, rfl, _, h1, r1⟩ := trodAll_cons r0
  obtain ⟨v2, vs2, d2, ds2, pp2, qq2, rfl, rfl, _, h2, r2⟩ := trodAll_cons r1
  obtain ⟨rfl, rfl, _⟩ := trodAll_nil r2
  obtain rfl : args = #[v0, v1, v2] := by cases args; simp_all
  obtain ⟨rfl, _⟩ := trodVars_none hV
  obtain ⟨s0, rfl, rfl, -, ws0⟩ := open_string Tryz.underlying9 (hval 0 9 v0 rfl rfl) h0
  obtain ⟨a1, rfl, -, -, wf1⟩ := open_int Tryz.underlying3 (hval 1 3 v1 rfl rfl) h1
  obtain ⟨cs2, rfl, _⟩ := okWide_struct Tryz.underlying33 (hval 2 33 v2 rfl rfl)
  obtain ⟨fu2, hf2⟩ := h2
  have hc2 : cs2.toList.length = 72 := quo_len hf2
  obtain ⟨Q, hQ, hg⟩ := open_q1 hf2 hc2
  have hq2 : Q.wf := ⟨hg.1, hg.2.1, hg.2.2.1, hg.2.2.2.1, hg.2.2.2.2⟩
  have hr2 : cs2 = qC Q := Array.toList_inj.1 hQ
  have hcall := quoteLines_any hq2 s0.data.toList (by have := short hk; omega) a1 W
  rw [bs_of, ← hr2] at hcall
  refine hcall.mono fun e W' h => ?_
  exact law_post rfl rfl (by kernel_rfl) rfl hW h

set_option maxHeartbeats 8000000 in
theorem closed : joinedFacts Tryz.prog 6 Tryz.f6 Rows.quoteLinesSpec Rows.quoteLinesUptoRow = true := by
  unfold joinedFacts
  simp only [Bool.and_eq_true]
  repeat' apply And.intro
  · (as_aux_lemma => kernel_rfl)
  · exact laidOut
  · (as_aux_lemma => kernel_rfl)
  · (as_aux_lemma => kernel_rfl)
  · (as_aux_lemma => kernel_rfl)
  · (as_aux_lemma => kernel_rfl)
  · (as_aux_lemma => kernel_rfl)
  · (as_aux_lemma => kernel_rfl)
  · (as_aux_lemma => kernel_rfl)
  · (as_aux_lemma => kernel_rfl)
  · (as_aux_lemma => kernel_rfl)
  · (as_aux_lemma => kernel_rfl)
  · (as_aux_lemma => kernel_rfl)
  · (as_aux_lemma => kernel_rfl)
  · (as_aux_lemma => kernel_rfl)
  · (as_aux_lemma => kernel_rfl)
  · (as_aux_lemma => kernel_rfl)
  · (as_aux_lemma => kernel_rfl)
  · (as_aux_lemma => kernel_rfl)
  · (as_aux_lemma => kernel_rfl)
  · (as_aux_lemma => kernel_rfl)
  · (as_aux_lemma => kernel_rfl)
  · (as_aux_lemma => kernel_rfl)
  · (as_aux_lemma => kernel_rfl)
  · (as_aux_lemma => kernel_rfl)
  · exact mayEnter_eq
  · rw [liftsFinal_eq]; rfl
  · rw [make_eq]; rfl
  · (as_aux_lemma => kernel_rfl)
  · (as_aux_lemma => kernel_rfl)
  · (as_aux_lemma => kernel_rfl)
  · (as_aux_lemma => kernel_rfl)

set_option maxRecDepth 1000000 in
theorem over : Rows.quoteLinesUptoRow.holds Tryz.pinned (Rows.OpenSpec.upto Rows.quoteLinesSpec) :=
  OpenClaim.holds_of_cond 6 Tryz.f6 rfl rfl rfl rfl rfl rfl rfl ⟨rfl, rfl, rfl, rfl, rfl⟩ rfl rfl rfl rfl rfl (by kernel_rfl) Tryz.func6 closed
    (of_decide_eq_true (by kernel_rfl)) (by unfold Func.isWrapper; first | (rw [if_pos (by decide +kernel)]; kernel_rfl) | (rw [if_neg (by decide +kernel)]; exact ⟨rfl, rfl⟩))
    (fun os started H enc _ Fs => by rw [OpenClaim.pre_eq_preRow]; exact lifted os started H enc Fs)

/-- The statement: the tied card. -/
theorem proved : Rows.QuoteLinesUptoCardSaid :=
  Claim7.holds_tied_plain_at .later [] [.data, .data, .data, .data, .sentinel, .sentinel, .pinned] true (true, "1a28db224fee48460bc77fbed10b2de75e6b6fd7e30db477d99b55f0ec9931a9") true
    over (fun _ h => by cases h) (by kernel_rfl) (fun _ h => by cases h) quoteLinesUpto_row_tie rfl ⟨rfl, rfl⟩ (by kernel_rfl) rfl
    (fun f fn hf hfn => by
      obtain rfl : f = 6 := Option.some.inj ((show Tryz.prog.funcNamed "fundadmin/fundadminlaw14.QuoteLines" = some 6 by kernel_rfl).symm.trans hf) |>.symm
      obtain rfl : fn = Tryz.f6 := (Option.some.inj (Tryz.func6.symm.trans hfn)).symm
      exact ⟨by kernel_rfl, fun j t ht => by
        rw [Tryz.params6] at ht
        have hm : t ∈ [9, 3, 33] := by simpa using Array.mem_of_getElem? ht
        have hall : ([9, 3, 33].all fun u => !Tryz.prog.wantsStandIn u) = true := by kernel_rfl
        exact (show Tryz.prog.wantsStandIn t = false by simpa using List.all_eq_true.1 hall t hm)⟩)
    (by kernel_rfl)
#print axioms proved
end Go.Proofs.YteaahhokaffmdaaGreatDoor.quoteLines
