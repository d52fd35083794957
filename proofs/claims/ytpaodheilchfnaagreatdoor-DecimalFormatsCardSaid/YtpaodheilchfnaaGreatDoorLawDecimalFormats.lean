/-
  DecimalFormats: for every number, ratio and number of places, Format, Text and PercentText answer what the document says; the listed tables of the library are as it lays them; no other condition.
-/
import Derived.Test.YtpaodheilchfnaaGreatDoorPz35
import Derived.Test.YtpaodheilchfnaaGreatDoorPz43
import Derived.WalkKit
import Derived.ProofKit
import Derived.OpenShut
import Derived.Lib.Hide
import Derived.WalkLawsBesides
import Derived.WalkSpells
import Derived.BigQuiet
import Derived.Deep.QuietTactic
import Derived.Deep.MidRow
import Derived.Deep.WholeRow
import Derived.Test.YtpaodheilchfnaaGreatDoorRows
import Derived.BigRegion
import Derived.Deep.RegionHeld3
import Derived.Deep.DeepCutAuto
import Derived.Deep.CutBlock
import Derived.Laws.BitsAllLaws
import Derived.Deep.Slices
import Derived.Orders
import Derived.RegionTactic
import Derived.Deep.RegionWith
import Derived.Laws.AppendOwn
import Derived.OwnWalk
import Derived.Deep.RegionLaw
import Derived.Deep.DrawnRows
import Derived.StillTailTactics
import Derived.Lib.ItoaNum
import Derived.Shelf.Strings.Builder1
import Derived.Shelf.Strings.Builder2
import Derived.Shelf.Strings.Trim
import Derived.Shelf.Small.Utf8
import Derived.Shelf.Small.Bits
import Derived.Shelf.Small.Strs
import Derived.Shelf.Small.Wraps
import Derived.Shelf.Strings.BuilderF
import Derived.Shelf.Strconv.Atoi
import Derived.Shelf.Strconv.Itoa0
import Derived.Shelf.Strconv.Itoa1
import Derived.Shelf.LaysM
import Derived.Shelf.Strconv.Itoa2
import Derived.Shelf.Strconv.Itoa3
import Derived.Shelf.Strconv.AtoiErrFast
import Derived.Shelf.Strconv.ParseIntEmpty
import Derived.Shelf.Strconv.AtoiFail
import Derived.Shelf.Strconv.Clone
import Derived.Shelf.Strconv.SyntaxError
import Derived.Shelf.LaysC
import Derived.Shelf.Strconv.ToError
import Derived.Shelf.Strconv.Lower
import Derived.Shelf.Strconv.ParseUint10
import Derived.Shelf.Strconv.ParseUint10Empty
import Derived.Shelf.Strconv.ParseUint10Any
import Derived.Shelf.Strconv.ParseInt10
import Derived.Shelf.Strconv.AtoiLong
import Derived.Shelf.Strconv.AtoiInnerAll
import Derived.Shelf.Strconv.RangeError
import Derived.Shelf.Strconv.ToErrorRange
import Derived.Shelf.Strconv.AtoiAll
import Derived.Shelf.Strings.Search1
import Derived.Shelf.Strings.Search2
import Derived.Shelf.Strings.Cut
import Derived.Shelf.Strings.Shaped
import Derived.Shelf.Strings.Prefix
import Derived.Shelf.Strings.Runes
import Derived.Shelf.Strings.AsciiSet
import Derived.Shelf.Bits.Mul64
import Derived.Shelf.Strings.Repeat
import Derived.Shelf.Unicode.DecodeSlow
import Derived.Test.YtpaodheilchfnaaGreatDoorProg
import Derived.Lib.SmallJoins
import Derived.Lib.SlBytesRow
import Derived.Deep.OwnRows
import Derived.Great.BuildSlice
import Derived.Deep.Fields
import Derived.Deep.Strs
import Derived.ShutString
import Derived.ChangeOld
import Derived.LaidMore
import Derived.Stop.Joined
import Derived.SevenTiedAt
import Derived.Test.YtpaodheilchfnaaGreatDoorTie
import Derived.Lay
import Derived.LaidOnce
import Derived.Test.YtpaodheilchfnaaGreatDoorCards
import Derived.KernelRfl
namespace Go.Proofs.YtpaodheilchfnaaGreatDoor.decimalFormats
open Go.ChangeShapes Go.WideShapes Go.ChangeAt Go.RowKit Go.Deep
open Go.ChangeMaps (open_string)
set_option linter.unusedVariables false

set_option maxHeartbeats 4000000 in
def wRat : Value := .agg #[.bool false, .int .u32 0, .int .u32 0, .int .u32 0, .int .u32 0, .int .u32 0, .int .u32 0, .int .u32 0, .int .u32 0, .int .u32 0, .int .u32 0, .int .u32 0, .int .u32 0, .int .u32 0, .int .u32 0, .int .u32 0, .int .u32 0, .int .u32 0, .int .u32 0, .int .u32 0, .int .u32 0, .int .u32 0, .int .u32 0, .int .u32 0, .int .u32 0, .int .u32 0, .int .u32 0, .int .u32 0, .int .u32 0, .int .u32 0, .int .u32 0, .int .u32 0, .int .u32 0, .bool false, .int .u32 0, .int .u32 0, .int .u32 0, .int .u32 0, .int .u32 0, .int .u32 0, .int .u32 0, .int .u32 0, .int .u32 0, .int .u32 0, .int .u32 0, .int .u32 0, .int .u32 0, .int .u32 0, .int .u32 0, .int .u32 0, .int .u32 0, .int .u32 0, .int .u32 0, .int .u32 0, .int .u32 0, .int .u32 0, .int .u32 0, .int .u32 0, .int .u32 0, .int .u32 0, .int .u32 0, .int .u32 0, .int .u32 0, .int .u32 0, .int .u32 0, .int .u32 0]

set_option maxHeartbeats 8000000 in
set_option maxRecDepth 100000 in
theorem lifted (os : Os) (started : os.Started) (H : Type) (enc : TypeId × Value → H) :
    ReturnsInHanded {} Tryz.checked os 9 .any (fun w args => (Rows.decimalFormatsSpec.pre enc Tryz.prog Tryz.f9 [] false w args ∧ laidMetH Tryz.prog laid7 w) ∧ sizedMet enc Tryz.prog Tryz.f9 (OpenSpec.ofChange Rows.decimalFormatsSpec) false w args) (Rows.decimalFormatsSpec.post enc Tryz.prog Tryz.f9 false true false false) := by
  refine returnsInHanded_of_change_and (C := Tryz.checked) (X := fun w _ => laidMetH Tryz.prog laid7 w) (fun _ _ _ hh h => h.of_heap hh) own started (by kernel_rfl) Tryz.func9
    (ChangeSpec.witness_shaped (enc := enc) (C := Tryz.checked) (os := os) (X := fun w _ => laidMetH Tryz.prog laid7 w) false (World.laidAll Tryz.prog os laid7) #[.int .i64 0, .int .i64 0, wRat] 8 (World.laidAll_os _ _ _) (World.shaped_of_ZipB (by kernel_rfl) (by kernel_rfl)) (by kernel_rfl) (by kernel_rfl) (by kernel_rfl) (door7 os _)) ?_
  intro W base args ds gs before hval0 hW _ _ hL _
  have ht := tab7 hL
  clear hL
  have hval : ∀ (j : Nat) t v, Tryz.f9.params[j]? = some t → args[j]? = some v → Value.okWide Tryz.prog W .any base t v := hval0
  have hW1 := hW
  obtain ⟨p, q, hA0, hV, _, _, _⟩ := hW1
  have hA : DataW.TrodAll enc Tryz.prog W 0 (fun _ => true) true Tryz.f9.params.toList args.toList ds p := hA0
  rw [Tryz.params9] at hA hval
  obtain ⟨v0, vs0, d0, ds0, pp0, qq0, hargs, rfl, _, h0, r0⟩ := trodAll_cons hA
  obtain ⟨v1, vs1, d1, ds1, pp1, qq1, rfl, rfl, _, h1, r1⟩ := trodAll_cons r0
  obtain ⟨v2, vs2, d2, ds2, pp2, qq2, rfl, rfl, _, h2, r2⟩ := trodAll_cons r1
  obtain ⟨rfl, rfl, _⟩ := trodAll_nil r2
  obtain rfl : args = #[v0, v1, v2] := by cases args; simp_all
  obtain ⟨rfl, _⟩ := trodVars_none hV
  obtain ⟨a0, rfl, -, -, wf0⟩ := open_int Tryz.underlying3 (hval 0 3 v0 rfl rfl) h0
  obtain ⟨a1, rfl, -, -, wf1⟩ := open_int Tryz.underlying3 (hval 1 3 v1 rfl rfl) h1
  obtain ⟨cs2, rfl, _⟩ := okWide_struct Tryz.underlying31 (hval 2 31 v2 rfl rfl)
  obtain ⟨fu2, hf2⟩ := h2
  obtain ⟨p2, m2, q2, n2, hm2, hn2, hc2⟩ := open_rat hf2
  have hr2 : cs2 = ratC p2 m2 q2 n2 := by
    apply Array.toList_inj.1
    exact hc2
  have hcall := decimalFormats_any (x := p2) (y := q2) a0 a1 hm2 hn2 ht
  rw [← hr2] at hcall
  refine hcall.mono fun e W' h => ?_
  exact law_post rfl rfl (by kernel_rfl) rfl hW h

set_option maxHeartbeats 8000000 in
theorem closed : joinedFacts Tryz.prog 9 Tryz.f9 Rows.decimalFormatsSpec Rows.decimalFormatsRow = true := by
  unfold joinedFacts
  simp only [Bool.and_eq_true]
  repeat' apply And.intro
  · (as_aux_lemma => kernel_rfl)
  · exact laidOut
  · (as_aux_lemma => kernel_rfl)
  · (as_aux_lemma => kernel_rfl)
  · (as_aux_lemma => kernel_rfl)
  · (as_aux_lemma => kernel_rfl)
  · (as_aux_lemma => kernel_rfl)
  · (as_aux_lemma => kernel_rfl)
  · (as_aux_lemma => kernel_rfl)
  · (as_aux_lemma => kernel_rfl)
  · (as_aux_lemma => kernel_rfl)
  · (as_aux_lemma => kernel_rfl)
  · (as_aux_lemma => kernel_rfl)
  · (as_aux_lemma => kernel_rfl)
  · (as_aux_lemma => kernel_rfl)
  · (as_aux_lemma => kernel_rfl)
  · (as_aux_lemma => kernel_rfl)
  · (as_aux_lemma => kernel_rfl)
  · (as_aux_lemma => kernel_rfl)
  · (as_aux_lemma => kernel_rfl)
  · (as_aux_lemma => kernel_rfl)
  · (as_aux_lemma => kernel_rfl)
  · (as_aux_lemma => kernel_rfl)
  · (as_aux_lemma => kernel_rfl)
  · (as_aux_lemma => kernel_rfl)
  · exact mayEnter_eq
  · rw [liftsFinal_eq]; rfl
  · rw [make_eq]; rfl
  · (as_aux_lemma => kernel_rfl)
  · (as_aux_lemma => kernel_rfl)
  · (as_aux_lemma => kernel_rfl)
  · (as_aux_lemma => kernel_rfl)

theorem over : Rows.decimalFormatsRow.holds Tryz.pinned (OpenSpec.ofChange Rows.decimalFormatsSpec) :=
  OpenClaim.holds_of_wide 9 Tryz.f9 rfl rfl rfl rfl rfl rfl rfl ⟨rfl, rfl, rfl, rfl, rfl⟩ rfl rfl rfl rfl rfl (by kernel_rfl) Tryz.func9 closed
    (of_decide_eq_true (by kernel_rfl)) (by unfold Func.isWrapper; first | (rw [if_pos (by decide +kernel)]; kernel_rfl) | (rw [if_neg (by decide +kernel)]; exact ⟨rfl, rfl⟩))
    (fun os started H enc _ => lifted os started H enc)

/-- The statement: the tied card. -/
theorem proved : Rows.DecimalFormatsCardSaid :=
  Claim7.holds_tied_plain_at .later [] [.data, .data, .data, .data, .sentinel, .sentinel, .pinned] true (true, "e14f2ecb80e5c20092e7057572625876a291e0a5eb73de3c5d66669267b2a168") true
    over (fun _ h => by cases h) (by kernel_rfl) (fun _ h => by cases h) decimalFormats_row_tie rfl ⟨rfl, rfl⟩ (by kernel_rfl) rfl
    (fun f fn hf hfn => by
      obtain rfl : f = 9 := Option.some.inj ((show Tryz.prog.funcNamed "fundadmin/fundadminlaw03.DecimalFormats" = some 9 by kernel_rfl).symm.trans hf) |>.symm
      obtain rfl : fn = Tryz.f9 := (Option.some.inj (Tryz.func9.symm.trans hfn)).symm
      exact ⟨by kernel_rfl, fun j t ht => by
        rw [Tryz.params9] at ht
        have hm : t ∈ [3, 3, 31] := by simpa using Array.mem_of_getElem? ht
        have hall : ([3, 3, 31].all fun u => !Tryz.prog.wantsStandIn u) = true := by kernel_rfl
        exact (show Tryz.prog.wantsStandIn t = false by simpa using List.all_eq_true.1 hall t hm)⟩)
    (by kernel_rfl)
#print axioms proved
end Go.Proofs.YtpaodheilchfnaaGreatDoor.decimalFormats
