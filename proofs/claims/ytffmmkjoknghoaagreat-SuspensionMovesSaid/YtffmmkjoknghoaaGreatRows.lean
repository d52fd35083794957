/-
  No cell of these rows narrows 'for every input' (looked for: loops, veiled, ifaces, maps, wideKeys, modest, calm, conditions, laid).
  DERIVED. THE GIVEN ROWS OF THIS SEAT. 5 by the template 'for every input the law returns true; each argument reads behind the call as it read before'; 0 by the template 'total and deterministic' (their statements: YtffmmkjoknghoaaGreatTotals.lean).
  GIVEN WITH THE SEED: the statements are not yours to turn. If you find one false, say at which input.
  Laid BY PROGRAM, IN A SANDBOX (cutbox-rows.mjs): the forced cells as the released guide's own fill.sh prints them over the translation f93250b5a74823b1… (all of the seat's roots in one cut). By AI agents, Wed Nov 11 2026. No macro, syntax, notation, axiom, sorry.
-/
import Derived.Test.YtffmmkjoknghoaaGreatChecked
import GoSem.Claim
import GoSem.ClaimJoined
import GoSem.ClaimMapViews
import Derived.JoinedTies
import Derived.KernelRfl
namespace Go.Proofs.YtffmmkjoknghoaaGreat
/- THE CELL 'sum', in the pinned program and in every row, IS THE sha256 OF THE DUMP (.gsa) THAT YtffmmkjoknghoaaGreatProg.lean LOADS. Nothing in Lean hashes anything: it is a label: what it is worth is what the hold of that sum in a sandbox is worth. -/
noncomputable def Tryz.pinned : Pinned := { name := "ytffmmkjoknghoaagreat", sum := "f93250b5a74823b120ccae9acc31798bcd1d8710a2949485e7a07be072cadced", checked := Tryz.checked }
namespace Rows
def none {H : Type} : Left H := { results := [], args := [] }

/-- 'fundadminlaw28.SuspensionMoves': WHATEVER THE INPUT: true; the input reads as it did. -/
def suspensionMovesSpec : ChangeSpec := { name := "suspensionMoves", fn := fun _ => fun
  | [d1, d2, d3] => { results := [.lit (.bool true)], args := [d1, d2, d3] }
  | _ => none }
def suspensionMovesRow : OpenClaim := { program := "ytffmmkjoknghoaagreat", sum := "f93250b5a74823b120ccae9acc31798bcd1d8710a2949485e7a07be072cadced", func := "fundadmin/fundadminlaw28.SuspensionMoves", spec := "suspensionMoves", unfollowed := true, recurses := true, apart := false }
def SuspensionMovesSaid : Prop := suspensionMovesRow.holds Tryz.pinned (OpenSpec.ofChange suspensionMovesSpec)

/-- ITS FALSE NEIGHBOUR: 'it returns false'. Refute it at one input. -/
def suspensionMovesWrong : ChangeSpec := { name := "suspensionMoves", fn := fun _ => fun
  | [d1, d2, d3] => { results := [.lit (.bool false)], args := [d1, d2, d3] }
  | _ => none }
def SuspensionMovesWrongFalsely : Prop := suspensionMovesRow.holds Tryz.pinned (OpenSpec.ofChange suspensionMovesWrong)

/-- 'fundadminlaw24.IntakeTells': WHATEVER THE INPUT: true; the input reads as it did. -/
def intakeTellsSpec : ChangeSpec := { name := "intakeTells", fn := fun _ => fun
  | [d1, d2, d3, d4] => { results := [.lit (.bool true)], args := [d1, d2, d3, d4] }
  | _ => none }
def intakeTellsRow : OpenClaim := { program := "ytffmmkjoknghoaagreat", sum := "f93250b5a74823b120ccae9acc31798bcd1d8710a2949485e7a07be072cadced", func := "fundadmin/fundadminlaw24.IntakeTells", spec := "intakeTells", unfollowed := true, recurses := true, apart := false }
def IntakeTellsSaid : Prop := intakeTellsRow.holds Tryz.pinned (OpenSpec.ofChange intakeTellsSpec)

/-- ITS FALSE NEIGHBOUR: 'it returns false'. Refute it at one input. -/
def intakeTellsWrong : ChangeSpec := { name := "intakeTells", fn := fun _ => fun
  | [d1, d2, d3, d4] => { results := [.lit (.bool false)], args := [d1, d2, d3, d4] }
  | _ => none }
def IntakeTellsWrongFalsely : Prop := intakeTellsRow.holds Tryz.pinned (OpenSpec.ofChange intakeTellsWrong)

/-- 'fundadminlaw24.IntakeOfBooks': WHATEVER THE INPUT: true; the input reads as it did. -/
def intakeOfBooksSpec : ChangeSpec := { name := "intakeOfBooks", fn := fun _ => fun
  | [d1, d2] => { results := [.lit (.bool true)], args := [d1, d2] }
  | _ => none }
def intakeOfBooksRow : OpenClaim := { program := "ytffmmkjoknghoaagreat", sum := "f93250b5a74823b120ccae9acc31798bcd1d8710a2949485e7a07be072cadced", func := "fundadmin/fundadminlaw24.IntakeOfBooks", spec := "intakeOfBooks", unfollowed := true, recurses := true, apart := false }
def IntakeOfBooksSaid : Prop := intakeOfBooksRow.holds Tryz.pinned (OpenSpec.ofChange intakeOfBooksSpec)

/-- ITS FALSE NEIGHBOUR: 'it returns false'. Refute it at one input. -/
def intakeOfBooksWrong : ChangeSpec := { name := "intakeOfBooks", fn := fun _ => fun
  | [d1, d2] => { results := [.lit (.bool false)], args := [d1, d2] }
  | _ => none }
def IntakeOfBooksWrongFalsely : Prop := intakeOfBooksRow.holds Tryz.pinned (OpenSpec.ofChange intakeOfBooksWrong)

/-- 'fundadminlaw24.IntakeRefuses': WHATEVER THE INPUT: true; the input reads as it did. -/
def intakeRefusesSpec : ChangeSpec := { name := "intakeRefuses", fn := fun _ => fun
  | [d1, d2, d3, d4, d5, d6] => { results := [.lit (.bool true)], args := [d1, d2, d3, d4, d5, d6] }
  | _ => none }
def intakeRefusesRow : OpenClaim := { program := "ytffmmkjoknghoaagreat", sum := "f93250b5a74823b120ccae9acc31798bcd1d8710a2949485e7a07be072cadced", func := "fundadmin/fundadminlaw24.IntakeRefuses", spec := "intakeRefuses", unfollowed := true, recurses := true, apart := false }
def IntakeRefusesSaid : Prop := intakeRefusesRow.holds Tryz.pinned (OpenSpec.ofChange intakeRefusesSpec)

/-- ITS FALSE NEIGHBOUR: 'it returns false'. Refute it at one input. -/
def intakeRefusesWrong : ChangeSpec := { name := "intakeRefuses", fn := fun _ => fun
  | [d1, d2, d3, d4, d5, d6] => { results := [.lit (.bool false)], args := [d1, d2, d3, d4, d5, d6] }
  | _ => none }
def IntakeRefusesWrongFalsely : Prop := intakeRefusesRow.holds Tryz.pinned (OpenSpec.ofChange intakeRefusesWrong)

/-- 'fundadminlaw24.IntakeKeepsDeadlines': WHATEVER THE INPUT: true; the input reads as it did. -/
def intakeKeepsDeadlinesSpec : ChangeSpec := { name := "intakeKeepsDeadlines", fn := fun _ => fun
  | [d] => { results := [.lit (.bool true)], args := [d] }
  | _ => none }
def intakeKeepsDeadlinesRow : OpenClaim := { program := "ytffmmkjoknghoaagreat", sum := "f93250b5a74823b120ccae9acc31798bcd1d8710a2949485e7a07be072cadced", func := "fundadmin/fundadminlaw24.IntakeKeepsDeadlines", spec := "intakeKeepsDeadlines", unfollowed := true, recurses := true, apart := false }
def IntakeKeepsDeadlinesSaid : Prop := intakeKeepsDeadlinesRow.holds Tryz.pinned (OpenSpec.ofChange intakeKeepsDeadlinesSpec)

/-- ITS FALSE NEIGHBOUR: 'it returns false'. Refute it at one input. -/
def intakeKeepsDeadlinesWrong : ChangeSpec := { name := "intakeKeepsDeadlines", fn := fun _ => fun
  | [d] => { results := [.lit (.bool false)], args := [d] }
  | _ => none }
def IntakeKeepsDeadlinesWrongFalsely : Prop := intakeKeepsDeadlinesRow.holds Tryz.pinned (OpenSpec.ofChange intakeKeepsDeadlinesWrong)

/- THE SECOND FORM. 'bulk': how many values and letters a reading holds, each counted each time it is reached (what is shared counts as often as it is met; a slice's spare places count too). A statement '..UptoSaid' is the law's where the arguments, and the package variables that the reading takes, are together of bulk at most 1048576: NARROWER than '..Said'. Prove '..Said' where nothing that the law and all that it calls make is longer than what came in: it says more and counts as full. Else prove '..UptoSaid'. A law counts once. -/
mutual
def uptoBulk {H : Type} : DataW H → Nat
  | .lit (.string bytes) => bytes.length + 1
  | .lit _ => 1
  | .nil => 1
  | .ptr d => uptoBulk d + 1
  | .slice elems spare => uptoBulkAll elems + uptoBulkAll spare + 1
  | .agg parts => uptoBulkAll parts + 1
  | .iface _ d => uptoBulk d + 1
  | .map entries => uptoBulkEntries entries + 1
  | .held _ => 1
def uptoBulkAll {H : Type} : List (DataW H) → Nat
  | [] => 0
  | d :: r => uptoBulk d + uptoBulkAll r
def uptoBulkEntries {H : Type} : List (Lit × DataW H) → Nat
  | [] => 0
  | x :: r => uptoBulkEntry x + uptoBulkEntries r
def uptoBulkEntry {H : Type} : Lit × DataW H → Nat
  | (.string bytes, d) => bytes.length + uptoBulk d + 1
  | (_, d) => uptoBulk d + 1
 end
def uptoSmall : (H : Type) → List (DataW H) → Bool := fun _ ds => decide (uptoBulkAll ds ≤ 1048576)
def OpenSpec.upto (s : _root_.Go.ChangeSpec) : _root_.Go.OpenSpec := { _root_.Go.OpenSpec.ofChange s with cond := some uptoSmall }

/-- 'fundadminlaw28.SuspensionMoves', WHERE WHAT IT READS IS OF BULK AT MOST 1048576: true; the input reads as it did. -/
def suspensionMovesUptoRow : OpenClaim := { program := "ytffmmkjoknghoaagreat", sum := "f93250b5a74823b120ccae9acc31798bcd1d8710a2949485e7a07be072cadced", func := "fundadmin/fundadminlaw28.SuspensionMoves", spec := "suspensionMoves", unfollowed := true, recurses := true, apart := false, narrowed := true }
def SuspensionMovesUptoSaid : Prop := suspensionMovesUptoRow.holds Tryz.pinned (OpenSpec.upto suspensionMovesSpec)

/-- 'fundadminlaw24.IntakeTells', WHERE WHAT IT READS IS OF BULK AT MOST 1048576: true; the input reads as it did. -/
def intakeTellsUptoRow : OpenClaim := { program := "ytffmmkjoknghoaagreat", sum := "f93250b5a74823b120ccae9acc31798bcd1d8710a2949485e7a07be072cadced", func := "fundadmin/fundadminlaw24.IntakeTells", spec := "intakeTells", unfollowed := true, recurses := true, apart := false, narrowed := true }
def IntakeTellsUptoSaid : Prop := intakeTellsUptoRow.holds Tryz.pinned (OpenSpec.upto intakeTellsSpec)

/-- 'fundadminlaw24.IntakeOfBooks', WHERE WHAT IT READS IS OF BULK AT MOST 1048576: true; the input reads as it did. -/
def intakeOfBooksUptoRow : OpenClaim := { program := "ytffmmkjoknghoaagreat", sum := "f93250b5a74823b120ccae9acc31798bcd1d8710a2949485e7a07be072cadced", func := "fundadmin/fundadminlaw24.IntakeOfBooks", spec := "intakeOfBooks", unfollowed := true, recurses := true, apart := false, narrowed := true }
def IntakeOfBooksUptoSaid : Prop := intakeOfBooksUptoRow.holds Tryz.pinned (OpenSpec.upto intakeOfBooksSpec)

/-- 'fundadminlaw24.IntakeRefuses', WHERE WHAT IT READS IS OF BULK AT MOST 1048576: true; the input reads as it did. -/
def intakeRefusesUptoRow : OpenClaim := { program := "ytffmmkjoknghoaagreat", sum := "f93250b5a74823b120ccae9acc31798bcd1d8710a2949485e7a07be072cadced", func := "fundadmin/fundadminlaw24.IntakeRefuses", spec := "intakeRefuses", unfollowed := true, recurses := true, apart := false, narrowed := true }
def IntakeRefusesUptoSaid : Prop := intakeRefusesUptoRow.holds Tryz.pinned (OpenSpec.upto intakeRefusesSpec)

/-- 'fundadminlaw24.IntakeKeepsDeadlines', WHERE WHAT IT READS IS OF BULK AT MOST 1048576: true; the input reads as it did. -/
def intakeKeepsDeadlinesUptoRow : OpenClaim := { program := "ytffmmkjoknghoaagreat", sum := "f93250b5a74823b120ccae9acc31798bcd1d8710a2949485e7a07be072cadced", func := "fundadmin/fundadminlaw24.IntakeKeepsDeadlines", spec := "intakeKeepsDeadlines", unfollowed := true, recurses := true, apart := false, narrowed := true }
def IntakeKeepsDeadlinesUptoSaid : Prop := intakeKeepsDeadlinesUptoRow.holds Tryz.pinned (OpenSpec.upto intakeKeepsDeadlinesSpec)

end Rows
end Go.Proofs.YtffmmkjoknghoaaGreat
