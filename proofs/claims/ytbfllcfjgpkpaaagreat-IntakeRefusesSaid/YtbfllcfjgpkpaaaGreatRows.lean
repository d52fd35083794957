/-
  No cell of these rows narrows 'for every input' (looked for: loops, veiled, ifaces, maps, wideKeys, modest, calm, conditions, laid).
  DERIVED. THE GIVEN ROWS OF THIS SEAT. 4 by the template 'for every input the law returns true; each argument reads behind the call as it read before'; 0 by the template 'total and deterministic' (their statements: YtbfllcfjgpkpaaaGreatTotals.lean).
  GIVEN WITH THE SEED: the statements are not yours to turn. If you find one false, say at which input.
  Laid BY PROGRAM, IN A SANDBOX (cutbox-rows.mjs): the forced cells as the released guide's own fill.sh prints them over the translation 863a94300745a45b… (all of the seat's roots in one cut). By AI agents, Wed Nov 11 2026. No macro, syntax, notation, axiom, sorry.
-/
import Derived.Test.YtbfllcfjgpkpaaaGreatChecked
import GoSem.Claim
import GoSem.ClaimJoined
import GoSem.ClaimMapViews
import Derived.JoinedTies
import Derived.KernelRfl
namespace Go.Proofs.YtbfllcfjgpkpaaaGreat
/- THE CELL 'sum', in the pinned program and in every row, IS THE sha256 OF THE DUMP (.gsa) THAT YtbfllcfjgpkpaaaGreatProg.lean LOADS. Nothing in Lean hashes anything: it is a label: what it is worth is what the hold of that sum in a sandbox is worth. -/
noncomputable def Tryz.pinned : Pinned := { name := "ytbfllcfjgpkpaaagreat", sum := "863a94300745a45bc3d933e0749bbc109a4b9688b31f402b7925553571236b98", checked := Tryz.checked }
namespace Rows
def none {H : Type} : Left H := { results := [], args := [] }

/-- 'fundadminlaw24.IntakeTells': WHATEVER THE INPUT: true; the input reads as it did. -/
def intakeTellsSpec : ChangeSpec := { name := "intakeTells", fn := fun _ => fun
  | [d1, d2, d3, d4] => { results := [.lit (.bool true)], args := [d1, d2, d3, d4] }
  | _ => none }
def intakeTellsRow : OpenClaim := { program := "ytbfllcfjgpkpaaagreat", sum := "863a94300745a45bc3d933e0749bbc109a4b9688b31f402b7925553571236b98", func := "fundadmin/fundadminlaw24.IntakeTells", spec := "intakeTells", unfollowed := true, recurses := true, apart := false }
def IntakeTellsSaid : Prop := intakeTellsRow.holds Tryz.pinned (OpenSpec.ofChange intakeTellsSpec)

/-- ITS FALSE NEIGHBOUR: 'it returns false'. Refute it at one input. -/
def intakeTellsWrong : ChangeSpec := { name := "intakeTells", fn := fun _ => fun
  | [d1, d2, d3, d4] => { results := [.lit (.bool false)], args := [d1, d2, d3, d4] }
  | _ => none }
def IntakeTellsWrongFalsely : Prop := intakeTellsRow.holds Tryz.pinned (OpenSpec.ofChange intakeTellsWrong)

/-- 'fundadminlaw24.IntakeOfBooks': WHATEVER THE INPUT: true; the input reads as it did. -/
def intakeOfBooksSpec : ChangeSpec := { name := "intakeOfBooks", fn := fun _ => fun
  | [d1, d2] => { results := [.lit (.bool true)], args := [d1, d2] }
  | _ => none }
def intakeOfBooksRow : OpenClaim := { program := "ytbfllcfjgpkpaaagreat", sum := "863a94300745a45bc3d933e0749bbc109a4b9688b31f402b7925553571236b98", func := "fundadmin/fundadminlaw24.IntakeOfBooks", spec := "intakeOfBooks", unfollowed := true, recurses := true, apart := false }
def IntakeOfBooksSaid : Prop := intakeOfBooksRow.holds Tryz.pinned (OpenSpec.ofChange intakeOfBooksSpec)

/-- ITS FALSE NEIGHBOUR: 'it returns false'. Refute it at one input. -/
def intakeOfBooksWrong : ChangeSpec := { name := "intakeOfBooks", fn := fun _ => fun
  | [d1, d2] => { results := [.lit (.bool false)], args := [d1, d2] }
  | _ => none }
def IntakeOfBooksWrongFalsely : Prop := intakeOfBooksRow.holds Tryz.pinned (OpenSpec.ofChange intakeOfBooksWrong)

/-- 'fundadminlaw24.IntakeRefuses': WHATEVER THE INPUT: true; the input reads as it did. -/
def intakeRefusesSpec : ChangeSpec := { name := "intakeRefuses", fn := fun _ => fun
  | [d1, d2, d3, d4, d5, d6] => { results := [.lit (.bool true)], args := [d1, d2, d3, d4, d5, d6] }
  | _ => none }
def intakeRefusesRow : OpenClaim := { program := "ytbfllcfjgpkpaaagreat", sum := "863a94300745a45bc3d933e0749bbc109a4b9688b31f402b7925553571236b98", func := "fundadmin/fundadminlaw24.IntakeRefuses", spec := "intakeRefuses", unfollowed := true, recurses := true, apart := false }
def IntakeRefusesSaid : Prop := intakeRefusesRow.holds Tryz.pinned (OpenSpec.ofChange intakeRefusesSpec)

/-- ITS FALSE NEIGHBOUR: 'it returns false'. Refute it at one input. -/
def intakeRefusesWrong : ChangeSpec := { name := "intakeRefuses", fn := fun _ => fun
  | [d1, d2, d3, d4, d5, d6] => { results := [.lit (.bool false)], args := [d1, d2, d3, d4, d5, d6] }
  | _ => none }
def IntakeRefusesWrongFalsely : Prop := intakeRefusesRow.holds Tryz.pinned (OpenSpec.ofChange intakeRefusesWrong)

/-- 'fundadminlaw24.IntakeKeepsDeadlines': WHATEVER THE INPUT: true; the input reads as it did. -/
def intakeKeepsDeadlinesSpec : ChangeSpec := { name := "intakeKeepsDeadlines", fn := fun _ => fun
  | [d] => { results := [.lit (.bool true)], args := [d] }
  | _ => none }
def intakeKeepsDeadlinesRow : OpenClaim := { program := "ytbfllcfjgpkpaaagreat", sum := "863a94300745a45bc3d933e0749bbc109a4b9688b31f402b7925553571236b98", func := "fundadmin/fundadminlaw24.IntakeKeepsDeadlines", spec := "intakeKeepsDeadlines", unfollowed := true, recurses := true, apart := false }
def IntakeKeepsDeadlinesSaid : Prop := intakeKeepsDeadlinesRow.holds Tryz.pinned (OpenSpec.ofChange intakeKeepsDeadlinesSpec)

/-- ITS FALSE NEIGHBOUR: 'it returns false'. Refute it at one input. -/
def intakeKeepsDeadlinesWrong : ChangeSpec := { name := "intakeKeepsDeadlines", fn := fun _ => fun
  | [d] => { results := [.lit (.bool false)], args := [d] }
  | _ => none }
def IntakeKeepsDeadlinesWrongFalsely : Prop := intakeKeepsDeadlinesRow.holds Tryz.pinned (OpenSpec.ofChange intakeKeepsDeadlinesWrong)

/- THE SECOND FORM. 'bulk': how many values and letters a reading holds, each counted each time it is reached (what is shared counts as often as it is met; a slice's spare places count too). A statement '..UptoSaid' is the law's where the arguments, and the package variables that the reading takes, are together of bulk at most 1048576: NARROWER than '..Said'. Prove '..Said' where nothing that the law and all that it calls make is longer than what came in: it says more and counts as full. Else prove '..UptoSaid'. A law counts once. -/
mutual
def uptoBulk {H : Type} : DataW H → Nat
  | .lit (.string bytes) => bytes.length + 1
  | .lit _ => 1
  | .nil => 1
  | .ptr d => uptoBulk d + 1
  | .slice elems spare => uptoBulkAll elems + uptoBulkAll spare + 1
  | .agg parts => uptoBulkAll parts + 1
  | .iface _ d => uptoBulk d + 1
  | .map entries => uptoBulkEntries entries + 1
  | .held _ => 1
def uptoBulkAll {H : Type} : List (DataW H) → Nat
  | [] => 0
  | d :: r => uptoBulk d + uptoBulkAll r
def uptoBulkEntries {H : Type} : List (Lit × DataW H) → Nat
  | [] => 0
  | x :: r => uptoBulkEntry x + uptoBulkEntries r
def uptoBulkEntry {H : Type} : Lit × DataW H → Nat
  | (.string bytes, d) => bytes.length + uptoBulk d + 1
  | (_, d) => uptoBulk d + 1
 end
def uptoSmall : (H : Type) → List (DataW H) → Bool := fun _ ds => decide (uptoBulkAll ds ≤ 1048576)
def OpenSpec.upto (s : _root_.Go.ChangeSpec) : _root_.Go.OpenSpec := { _root_.Go.OpenSpec.ofChange s with cond := some uptoSmall }

/-- 'fundadminlaw24.IntakeTells', WHERE WHAT IT READS IS OF BULK AT MOST 1048576: true; the input reads as it did. -/
def intakeTellsUptoRow : OpenClaim := { program := "ytbfllcfjgpkpaaagreat", sum := "863a94300745a45bc3d933e0749bbc109a4b9688b31f402b7925553571236b98", func := "fundadmin/fundadminlaw24.IntakeTells", spec := "intakeTells", unfollowed := true, recurses := true, apart := false, narrowed := true }
def IntakeTellsUptoSaid : Prop := intakeTellsUptoRow.holds Tryz.pinned (OpenSpec.upto intakeTellsSpec)

/-- 'fundadminlaw24.IntakeOfBooks', WHERE WHAT IT READS IS OF BULK AT MOST 1048576: true; the input reads as it did. -/
def intakeOfBooksUptoRow : OpenClaim := { program := "ytbfllcfjgpkpaaagreat", sum := "863a94300745a45bc3d933e0749bbc109a4b9688b31f402b7925553571236b98", func := "fundadmin/fundadminlaw24.IntakeOfBooks", spec := "intakeOfBooks", unfollowed := true, recurses := true, apart := false, narrowed := true }
def IntakeOfBooksUptoSaid : Prop := intakeOfBooksUptoRow.holds Tryz.pinned (OpenSpec.upto intakeOfBooksSpec)

/-- 'fundadminlaw24.IntakeRefuses', WHERE WHAT IT READS IS OF BULK AT MOST 1048576: true; the input reads as it did. -/
def intakeRefusesUptoRow : OpenClaim := { program := "ytbfllcfjgpkpaaagreat", sum := "863a94300745a45bc3d933e0749bbc109a4b9688b31f402b7925553571236b98", func := "fundadmin/fundadminlaw24.IntakeRefuses", spec := "intakeRefuses", unfollowed := true, recurses := true, apart := false, narrowed := true }
def IntakeRefusesUptoSaid : Prop := intakeRefusesUptoRow.holds Tryz.pinned (OpenSpec.upto intakeRefusesSpec)

/-- 'fundadminlaw24.IntakeKeepsDeadlines', WHERE WHAT IT READS IS OF BULK AT MOST 1048576: true; the input reads as it did. -/
def intakeKeepsDeadlinesUptoRow : OpenClaim := { program := "ytbfllcfjgpkpaaagreat", sum := "863a94300745a45bc3d933e0749bbc109a4b9688b31f402b7925553571236b98", func := "fundadmin/fundadminlaw24.IntakeKeepsDeadlines", spec := "intakeKeepsDeadlines", unfollowed := true, recurses := true, apart := false, narrowed := true }
def IntakeKeepsDeadlinesUptoSaid : Prop := intakeKeepsDeadlinesUptoRow.holds Tryz.pinned (OpenSpec.upto intakeKeepsDeadlinesSpec)

end Rows
end Go.Proofs.YtbfllcfjgpkpaaaGreat
