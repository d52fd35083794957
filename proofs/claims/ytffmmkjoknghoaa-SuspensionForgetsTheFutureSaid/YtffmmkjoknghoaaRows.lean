/-
  No cell of these rows narrows 'for every input' (looked for: loops, veiled, ifaces, maps, wideKeys, modest, calm, conditions, laid).
  DERIVED. THE GIVEN ROWS OF THIS SEAT. 5 by the template 'for every input the law returns true; each argument reads behind the call as it read before'; 0 by the template 'total and deterministic' (their statements: YtffmmkjoknghoaaTotals.lean).
  GIVEN WITH THE SEED: the statements are not yours to turn. If you find one false, say at which input.
  Laid BY PROGRAM, IN A SANDBOX (cutbox-rows.mjs): the forced cells as the released guide's own fill.sh prints them over the translation b64d5be5e25ff67f… (all of the seat's roots in one cut). By AI agents, Wed Nov 11 2026. No macro, syntax, notation, axiom, sorry.
-/
import Derived.Test.YtffmmkjoknghoaaChecked
import GoSem.Claim
import GoSem.ClaimJoined
import GoSem.ClaimMapViews
import Derived.JoinedTies
import Derived.KernelRfl
namespace Go.Proofs.Ytffmmkjoknghoaa
/- THE CELL 'sum', in the pinned program and in every row, IS THE sha256 OF THE DUMP (.gsa) THAT YtffmmkjoknghoaaProg.lean LOADS. Nothing in Lean hashes anything: it is a label: what it is worth is what the hold of that sum in a sandbox is worth. -/
noncomputable def Try.pinned : Pinned := { name := "ytffmmkjoknghoaa", sum := "b64d5be5e25ff67fd31591a37c25312704145477997b570ff094b5a1d867d84d", checked := Try.checked }
namespace Rows
def none {H : Type} : Left H := { results := [], args := [] }

/-- 'fundadminlaw09.ScheduleMonths': WHATEVER THE INPUT: true; the input reads as it did. -/
def scheduleMonthsSpec : ChangeSpec := { name := "scheduleMonths", fn := fun _ => fun
  | [d] => { results := [.lit (.bool true)], args := [d] }
  | _ => none }
def scheduleMonthsRow : OpenClaim := { program := "ytffmmkjoknghoaa", sum := "b64d5be5e25ff67fd31591a37c25312704145477997b570ff094b5a1d867d84d", func := "fundadmin/fundadminlaw09.ScheduleMonths", spec := "scheduleMonths", unfollowed := true, recurses := true, apart := false }
def ScheduleMonthsSaid : Prop := scheduleMonthsRow.holds Try.pinned (OpenSpec.ofChange scheduleMonthsSpec)

/-- ITS FALSE NEIGHBOUR: 'it returns false'. Refute it at one input. -/
def scheduleMonthsWrong : ChangeSpec := { name := "scheduleMonths", fn := fun _ => fun
  | [d] => { results := [.lit (.bool false)], args := [d] }
  | _ => none }
def ScheduleMonthsWrongFalsely : Prop := scheduleMonthsRow.holds Try.pinned (OpenSpec.ofChange scheduleMonthsWrong)

/-- 'fundadminlaw28.SuspensionIsPassed': WHATEVER THE INPUT: true; the input reads as it did. -/
def suspensionIsPassedSpec : ChangeSpec := { name := "suspensionIsPassed", fn := fun _ => fun
  | [d1, d2, d3] => { results := [.lit (.bool true)], args := [d1, d2, d3] }
  | _ => none }
def suspensionIsPassedRow : OpenClaim := { program := "ytffmmkjoknghoaa", sum := "b64d5be5e25ff67fd31591a37c25312704145477997b570ff094b5a1d867d84d", func := "fundadmin/fundadminlaw28.SuspensionIsPassed", spec := "suspensionIsPassed", unfollowed := true, recurses := true, apart := false }
def SuspensionIsPassedSaid : Prop := suspensionIsPassedRow.holds Try.pinned (OpenSpec.ofChange suspensionIsPassedSpec)

/-- ITS FALSE NEIGHBOUR: 'it returns false'. Refute it at one input. -/
def suspensionIsPassedWrong : ChangeSpec := { name := "suspensionIsPassed", fn := fun _ => fun
  | [d1, d2, d3] => { results := [.lit (.bool false)], args := [d1, d2, d3] }
  | _ => none }
def SuspensionIsPassedWrongFalsely : Prop := suspensionIsPassedRow.holds Try.pinned (OpenSpec.ofChange suspensionIsPassedWrong)

/-- 'fundadminlaw28.SuspensionForgetsTheFuture': WHATEVER THE INPUT: true; the input reads as it did. -/
def suspensionForgetsTheFutureSpec : ChangeSpec := { name := "suspensionForgetsTheFuture", fn := fun _ => fun
  | [d1, d2, d3] => { results := [.lit (.bool true)], args := [d1, d2, d3] }
  | _ => none }
def suspensionForgetsTheFutureRow : OpenClaim := { program := "ytffmmkjoknghoaa", sum := "b64d5be5e25ff67fd31591a37c25312704145477997b570ff094b5a1d867d84d", func := "fundadmin/fundadminlaw28.SuspensionForgetsTheFuture", spec := "suspensionForgetsTheFuture", unfollowed := true, recurses := true, apart := false }
def SuspensionForgetsTheFutureSaid : Prop := suspensionForgetsTheFutureRow.holds Try.pinned (OpenSpec.ofChange suspensionForgetsTheFutureSpec)

/-- ITS FALSE NEIGHBOUR: 'it returns false'. Refute it at one input. -/
def suspensionForgetsTheFutureWrong : ChangeSpec := { name := "suspensionForgetsTheFuture", fn := fun _ => fun
  | [d1, d2, d3] => { results := [.lit (.bool false)], args := [d1, d2, d3] }
  | _ => none }
def SuspensionForgetsTheFutureWrongFalsely : Prop := suspensionForgetsTheFutureRow.holds Try.pinned (OpenSpec.ofChange suspensionForgetsTheFutureWrong)

/-- 'fundadminlaw24.IntakeForgetsTheFuture': WHATEVER THE INPUT: true; the input reads as it did. -/
def intakeForgetsTheFutureSpec : ChangeSpec := { name := "intakeForgetsTheFuture", fn := fun _ => fun
  | [d1, d2] => { results := [.lit (.bool true)], args := [d1, d2] }
  | _ => none }
def intakeForgetsTheFutureRow : OpenClaim := { program := "ytffmmkjoknghoaa", sum := "b64d5be5e25ff67fd31591a37c25312704145477997b570ff094b5a1d867d84d", func := "fundadmin/fundadminlaw24.IntakeForgetsTheFuture", spec := "intakeForgetsTheFuture", unfollowed := true, recurses := true, apart := false }
def IntakeForgetsTheFutureSaid : Prop := intakeForgetsTheFutureRow.holds Try.pinned (OpenSpec.ofChange intakeForgetsTheFutureSpec)

/-- ITS FALSE NEIGHBOUR: 'it returns false'. Refute it at one input. -/
def intakeForgetsTheFutureWrong : ChangeSpec := { name := "intakeForgetsTheFuture", fn := fun _ => fun
  | [d1, d2] => { results := [.lit (.bool false)], args := [d1, d2] }
  | _ => none }
def IntakeForgetsTheFutureWrongFalsely : Prop := intakeForgetsTheFutureRow.holds Try.pinned (OpenSpec.ofChange intakeForgetsTheFutureWrong)

/-- 'fundadminlaw24.IntakeIgnoresWhatFailed': WHATEVER THE INPUT: true; the input reads as it did. -/
def intakeIgnoresWhatFailedSpec : ChangeSpec := { name := "intakeIgnoresWhatFailed", fn := fun _ => fun
  | [d] => { results := [.lit (.bool true)], args := [d] }
  | _ => none }
def intakeIgnoresWhatFailedRow : OpenClaim := { program := "ytffmmkjoknghoaa", sum := "b64d5be5e25ff67fd31591a37c25312704145477997b570ff094b5a1d867d84d", func := "fundadmin/fundadminlaw24.IntakeIgnoresWhatFailed", spec := "intakeIgnoresWhatFailed", unfollowed := true, recurses := true, apart := false }
def IntakeIgnoresWhatFailedSaid : Prop := intakeIgnoresWhatFailedRow.holds Try.pinned (OpenSpec.ofChange intakeIgnoresWhatFailedSpec)

/-- ITS FALSE NEIGHBOUR: 'it returns false'. Refute it at one input. -/
def intakeIgnoresWhatFailedWrong : ChangeSpec := { name := "intakeIgnoresWhatFailed", fn := fun _ => fun
  | [d] => { results := [.lit (.bool false)], args := [d] }
  | _ => none }
def IntakeIgnoresWhatFailedWrongFalsely : Prop := intakeIgnoresWhatFailedRow.holds Try.pinned (OpenSpec.ofChange intakeIgnoresWhatFailedWrong)

/- THE SECOND FORM. 'bulk': how many values and letters a reading holds, each counted each time it is reached (what is shared counts as often as it is met; a slice's spare places count too). A statement '..UptoSaid' is the law's where the arguments, and the package variables that the reading takes, are together of bulk at most 1048576: NARROWER than '..Said'. Prove '..Said' where nothing that the law and all that it calls make is longer than what came in: it says more and counts as full. Else prove '..UptoSaid'. A law counts once. -/
mutual
def uptoBulk {H : Type} : DataW H → Nat
  | .lit (.string bytes) => bytes.length + 1
  | .lit _ => 1
  | .nil => 1
  | .ptr d => uptoBulk d + 1
  | .slice elems spare => uptoBulkAll elems + uptoBulkAll spare + 1
  | .agg parts => uptoBulkAll parts + 1
  | .iface _ d => uptoBulk d + 1
  | .map entries => uptoBulkEntries entries + 1
  | .held _ => 1
def uptoBulkAll {H : Type} : List (DataW H) → Nat
  | [] => 0
  | d :: r => uptoBulk d + uptoBulkAll r
def uptoBulkEntries {H : Type} : List (Lit × DataW H) → Nat
  | [] => 0
  | x :: r => uptoBulkEntry x + uptoBulkEntries r
def uptoBulkEntry {H : Type} : Lit × DataW H → Nat
  | (.string bytes, d) => bytes.length + uptoBulk d + 1
  | (_, d) => uptoBulk d + 1
 end
def uptoSmall : (H : Type) → List (DataW H) → Bool := fun _ ds => decide (uptoBulkAll ds ≤ 1048576)
def OpenSpec.upto (s : _root_.Go.ChangeSpec) : _root_.Go.OpenSpec := { _root_.Go.OpenSpec.ofChange s with cond := some uptoSmall }

/-- 'fundadminlaw09.ScheduleMonths', WHERE WHAT IT READS IS OF BULK AT MOST 1048576: true; the input reads as it did. -/
def scheduleMonthsUptoRow : OpenClaim := { program := "ytffmmkjoknghoaa", sum := "b64d5be5e25ff67fd31591a37c25312704145477997b570ff094b5a1d867d84d", func := "fundadmin/fundadminlaw09.ScheduleMonths", spec := "scheduleMonths", unfollowed := true, recurses := true, apart := false, narrowed := true }
def ScheduleMonthsUptoSaid : Prop := scheduleMonthsUptoRow.holds Try.pinned (OpenSpec.upto scheduleMonthsSpec)

/-- 'fundadminlaw28.SuspensionIsPassed', WHERE WHAT IT READS IS OF BULK AT MOST 1048576: true; the input reads as it did. -/
def suspensionIsPassedUptoRow : OpenClaim := { program := "ytffmmkjoknghoaa", sum := "b64d5be5e25ff67fd31591a37c25312704145477997b570ff094b5a1d867d84d", func := "fundadmin/fundadminlaw28.SuspensionIsPassed", spec := "suspensionIsPassed", unfollowed := true, recurses := true, apart := false, narrowed := true }
def SuspensionIsPassedUptoSaid : Prop := suspensionIsPassedUptoRow.holds Try.pinned (OpenSpec.upto suspensionIsPassedSpec)

/-- 'fundadminlaw28.SuspensionForgetsTheFuture', WHERE WHAT IT READS IS OF BULK AT MOST 1048576: true; the input reads as it did. -/
def suspensionForgetsTheFutureUptoRow : OpenClaim := { program := "ytffmmkjoknghoaa", sum := "b64d5be5e25ff67fd31591a37c25312704145477997b570ff094b5a1d867d84d", func := "fundadmin/fundadminlaw28.SuspensionForgetsTheFuture", spec := "suspensionForgetsTheFuture", unfollowed := true, recurses := true, apart := false, narrowed := true }
def SuspensionForgetsTheFutureUptoSaid : Prop := suspensionForgetsTheFutureUptoRow.holds Try.pinned (OpenSpec.upto suspensionForgetsTheFutureSpec)

/-- 'fundadminlaw24.IntakeForgetsTheFuture', WHERE WHAT IT READS IS OF BULK AT MOST 1048576: true; the input reads as it did. -/
def intakeForgetsTheFutureUptoRow : OpenClaim := { program := "ytffmmkjoknghoaa", sum := "b64d5be5e25ff67fd31591a37c25312704145477997b570ff094b5a1d867d84d", func := "fundadmin/fundadminlaw24.IntakeForgetsTheFuture", spec := "intakeForgetsTheFuture", unfollowed := true, recurses := true, apart := false, narrowed := true }
def IntakeForgetsTheFutureUptoSaid : Prop := intakeForgetsTheFutureUptoRow.holds Try.pinned (OpenSpec.upto intakeForgetsTheFutureSpec)

/-- 'fundadminlaw24.IntakeIgnoresWhatFailed', WHERE WHAT IT READS IS OF BULK AT MOST 1048576: true; the input reads as it did. -/
def intakeIgnoresWhatFailedUptoRow : OpenClaim := { program := "ytffmmkjoknghoaa", sum := "b64d5be5e25ff67fd31591a37c25312704145477997b570ff094b5a1d867d84d", func := "fundadmin/fundadminlaw24.IntakeIgnoresWhatFailed", spec := "intakeIgnoresWhatFailed", unfollowed := true, recurses := true, apart := false, narrowed := true }
def IntakeIgnoresWhatFailedUptoSaid : Prop := intakeIgnoresWhatFailedUptoRow.holds Try.pinned (OpenSpec.upto intakeIgnoresWhatFailedSpec)

end Rows
end Go.Proofs.Ytffmmkjoknghoaa
