/-
  No cell of these rows narrows 'for every input' (looked for: loops, veiled, ifaces, maps, wideKeys, modest, calm, conditions, laid).
  DERIVED. THE GIVEN ROWS OF THIS SEAT. 21 by the template 'for every input the law returns true; each argument reads behind the call as it read before'; 0 by the template 'total and deterministic' (their statements: YtmjegmlchonlmaaTotals.lean).
  GIVEN WITH THE SEED: the statements are not yours to turn. If you find one false, say at which input.
  Laid BY PROGRAM, IN A SANDBOX (cutbox-rows.mjs): the forced cells as the released guide's own fill.sh prints them over the translation 4507c185868648f1… (all of the seat's roots in one cut). By AI agents, Wed Nov 11 2026. No macro, syntax, notation, axiom, sorry.
-/
import Derived.Test.YtmjegmlchonlmaaChecked
import GoSem.Claim
import GoSem.ClaimJoined
import GoSem.ClaimMapViews
import Derived.JoinedTies
import Derived.KernelRfl
namespace Go.Proofs.Ytmjegmlchonlmaa
/- THE CELL 'sum', in the pinned program and in every row, IS THE sha256 OF THE DUMP (.gsa) THAT YtmjegmlchonlmaaProg.lean LOADS. Nothing in Lean hashes anything: it is a label: what it is worth is what the hold of that sum in a sandbox is worth. -/
noncomputable def Try.pinned : Pinned := { name := "ytmjegmlchonlmaa", sum := "4507c185868648f1266e8d869d036975af8ae17fe7a8f0c15d309dda131986c7", checked := Try.checked }
namespace Rows
def none {H : Type} : Left H := { results := [], args := [] }

/-- 'fundadminlaw07.ZoneExact': WHATEVER THE INPUT: true; the input reads as it did. -/
def zoneExactSpec : ChangeSpec := { name := "zoneExact", fn := fun _ => fun
  | [d1, d2, d3, d4] => { results := [.lit (.bool true)], args := [d1, d2, d3, d4] }
  | _ => none }
def zoneExactRow : OpenClaim := { program := "ytmjegmlchonlmaa", sum := "4507c185868648f1266e8d869d036975af8ae17fe7a8f0c15d309dda131986c7", func := "fundadmin/fundadminlaw07.ZoneExact", spec := "zoneExact", unfollowed := true, recurses := true, apart := false }
def ZoneExactSaid : Prop := zoneExactRow.holds Try.pinned (OpenSpec.ofChange zoneExactSpec)

/-- ITS FALSE NEIGHBOUR: 'it returns false'. Refute it at one input. -/
def zoneExactWrong : ChangeSpec := { name := "zoneExact", fn := fun _ => fun
  | [d1, d2, d3, d4] => { results := [.lit (.bool false)], args := [d1, d2, d3, d4] }
  | _ => none }
def ZoneExactWrongFalsely : Prop := zoneExactRow.holds Try.pinned (OpenSpec.ofChange zoneExactWrong)

/-- 'fundadminlaw07.ZonePlays': WHATEVER THE INPUT: true; the input reads as it did. -/
def zonePlaysSpec : ChangeSpec := { name := "zonePlays", fn := fun _ => fun
  | [d] => { results := [.lit (.bool true)], args := [d] }
  | _ => none }
def zonePlaysRow : OpenClaim := { program := "ytmjegmlchonlmaa", sum := "4507c185868648f1266e8d869d036975af8ae17fe7a8f0c15d309dda131986c7", func := "fundadmin/fundadminlaw07.ZonePlays", spec := "zonePlays", unfollowed := true, recurses := true, apart := false }
def ZonePlaysSaid : Prop := zonePlaysRow.holds Try.pinned (OpenSpec.ofChange zonePlaysSpec)

/-- ITS FALSE NEIGHBOUR: 'it returns false'. Refute it at one input. -/
def zonePlaysWrong : ChangeSpec := { name := "zonePlays", fn := fun _ => fun
  | [d] => { results := [.lit (.bool false)], args := [d] }
  | _ => none }
def ZonePlaysWrongFalsely : Prop := zonePlaysRow.holds Try.pinned (OpenSpec.ofChange zonePlaysWrong)

/-- 'fundadminlaw07.ZoneSpoilt': WHATEVER THE INPUT: true; the input reads as it did. -/
def zoneSpoiltSpec : ChangeSpec := { name := "zoneSpoilt", fn := fun _ => fun
  | [d1, d2] => { results := [.lit (.bool true)], args := [d1, d2] }
  | _ => none }
def zoneSpoiltRow : OpenClaim := { program := "ytmjegmlchonlmaa", sum := "4507c185868648f1266e8d869d036975af8ae17fe7a8f0c15d309dda131986c7", func := "fundadmin/fundadminlaw07.ZoneSpoilt", spec := "zoneSpoilt", unfollowed := true, recurses := true, apart := false }
def ZoneSpoiltSaid : Prop := zoneSpoiltRow.holds Try.pinned (OpenSpec.ofChange zoneSpoiltSpec)

/-- ITS FALSE NEIGHBOUR: 'it returns false'. Refute it at one input. -/
def zoneSpoiltWrong : ChangeSpec := { name := "zoneSpoilt", fn := fun _ => fun
  | [d1, d2] => { results := [.lit (.bool false)], args := [d1, d2] }
  | _ => none }
def ZoneSpoiltWrongFalsely : Prop := zoneSpoiltRow.holds Try.pinned (OpenSpec.ofChange zoneSpoiltWrong)

/-- 'fundadminlaw07.ZoneMonotone': WHATEVER THE INPUT: true; the input reads as it did. -/
def zoneMonotoneSpec : ChangeSpec := { name := "zoneMonotone", fn := fun _ => fun
  | [d] => { results := [.lit (.bool true)], args := [d] }
  | _ => none }
def zoneMonotoneRow : OpenClaim := { program := "ytmjegmlchonlmaa", sum := "4507c185868648f1266e8d869d036975af8ae17fe7a8f0c15d309dda131986c7", func := "fundadmin/fundadminlaw07.ZoneMonotone", spec := "zoneMonotone", unfollowed := true, recurses := true, apart := false }
def ZoneMonotoneSaid : Prop := zoneMonotoneRow.holds Try.pinned (OpenSpec.ofChange zoneMonotoneSpec)

/-- ITS FALSE NEIGHBOUR: 'it returns false'. Refute it at one input. -/
def zoneMonotoneWrong : ChangeSpec := { name := "zoneMonotone", fn := fun _ => fun
  | [d] => { results := [.lit (.bool false)], args := [d] }
  | _ => none }
def ZoneMonotoneWrongFalsely : Prop := zoneMonotoneRow.holds Try.pinned (OpenSpec.ofChange zoneMonotoneWrong)

/-- 'fundadminlaw07.ZoneInverse': WHATEVER THE INPUT: true; the input reads as it did. -/
def zoneInverseSpec : ChangeSpec := { name := "zoneInverse", fn := fun _ => fun
  | [d] => { results := [.lit (.bool true)], args := [d] }
  | _ => none }
def zoneInverseRow : OpenClaim := { program := "ytmjegmlchonlmaa", sum := "4507c185868648f1266e8d869d036975af8ae17fe7a8f0c15d309dda131986c7", func := "fundadmin/fundadminlaw07.ZoneInverse", spec := "zoneInverse", unfollowed := true, recurses := true, apart := false }
def ZoneInverseSaid : Prop := zoneInverseRow.holds Try.pinned (OpenSpec.ofChange zoneInverseSpec)

/-- ITS FALSE NEIGHBOUR: 'it returns false'. Refute it at one input. -/
def zoneInverseWrong : ChangeSpec := { name := "zoneInverse", fn := fun _ => fun
  | [d] => { results := [.lit (.bool false)], args := [d] }
  | _ => none }
def ZoneInverseWrongFalsely : Prop := zoneInverseRow.holds Try.pinned (OpenSpec.ofChange zoneInverseWrong)

/-- 'fundadminlaw07.ZoneFixed': WHATEVER THE INPUT: true; the input reads as it did. -/
def zoneFixedSpec : ChangeSpec := { name := "zoneFixed", fn := fun _ => fun
  | [d1, d2] => { results := [.lit (.bool true)], args := [d1, d2] }
  | _ => none }
def zoneFixedRow : OpenClaim := { program := "ytmjegmlchonlmaa", sum := "4507c185868648f1266e8d869d036975af8ae17fe7a8f0c15d309dda131986c7", func := "fundadmin/fundadminlaw07.ZoneFixed", spec := "zoneFixed", unfollowed := true, recurses := true, apart := false }
def ZoneFixedSaid : Prop := zoneFixedRow.holds Try.pinned (OpenSpec.ofChange zoneFixedSpec)

/-- ITS FALSE NEIGHBOUR: 'it returns false'. Refute it at one input. -/
def zoneFixedWrong : ChangeSpec := { name := "zoneFixed", fn := fun _ => fun
  | [d1, d2] => { results := [.lit (.bool false)], args := [d1, d2] }
  | _ => none }
def ZoneFixedWrongFalsely : Prop := zoneFixedRow.holds Try.pinned (OpenSpec.ofChange zoneFixedWrong)

/-- 'fundadminlaw05.DateTexts': WHATEVER THE INPUT: true; the input reads as it did. -/
def dateTextsSpec : ChangeSpec := { name := "dateTexts", fn := fun _ => fun
  | [d1, d2] => { results := [.lit (.bool true)], args := [d1, d2] }
  | _ => none }
def dateTextsRow : OpenClaim := { program := "ytmjegmlchonlmaa", sum := "4507c185868648f1266e8d869d036975af8ae17fe7a8f0c15d309dda131986c7", func := "fundadmin/fundadminlaw05.DateTexts", spec := "dateTexts", apart := false }
def DateTextsSaid : Prop := dateTextsRow.holds Try.pinned (OpenSpec.ofChange dateTextsSpec)

/-- ITS FALSE NEIGHBOUR: 'it returns false'. Refute it at one input. -/
def dateTextsWrong : ChangeSpec := { name := "dateTexts", fn := fun _ => fun
  | [d1, d2] => { results := [.lit (.bool false)], args := [d1, d2] }
  | _ => none }
def DateTextsWrongFalsely : Prop := dateTextsRow.holds Try.pinned (OpenSpec.ofChange dateTextsWrong)

/-- 'fundadminlaw05.DateReads': WHATEVER THE INPUT: true; the input reads as it did. -/
def dateReadsSpec : ChangeSpec := { name := "dateReads", fn := fun _ => fun
  | [d] => { results := [.lit (.bool true)], args := [d] }
  | _ => none }
def dateReadsRow : OpenClaim := { program := "ytmjegmlchonlmaa", sum := "4507c185868648f1266e8d869d036975af8ae17fe7a8f0c15d309dda131986c7", func := "fundadmin/fundadminlaw05.DateReads", spec := "dateReads", apart := false }
def DateReadsSaid : Prop := dateReadsRow.holds Try.pinned (OpenSpec.ofChange dateReadsSpec)

/-- ITS FALSE NEIGHBOUR: 'it returns false'. Refute it at one input. -/
def dateReadsWrong : ChangeSpec := { name := "dateReads", fn := fun _ => fun
  | [d] => { results := [.lit (.bool false)], args := [d] }
  | _ => none }
def DateReadsWrongFalsely : Prop := dateReadsRow.holds Try.pinned (OpenSpec.ofChange dateReadsWrong)

/-- 'fundadminlaw05.DateInverse': WHATEVER THE INPUT: true; the input reads as it did. -/
def dateInverseSpec : ChangeSpec := { name := "dateInverse", fn := fun _ => fun
  | [d] => { results := [.lit (.bool true)], args := [d] }
  | _ => none }
def dateInverseRow : OpenClaim := { program := "ytmjegmlchonlmaa", sum := "4507c185868648f1266e8d869d036975af8ae17fe7a8f0c15d309dda131986c7", func := "fundadmin/fundadminlaw05.DateInverse", spec := "dateInverse", apart := false }
def DateInverseSaid : Prop := dateInverseRow.holds Try.pinned (OpenSpec.ofChange dateInverseSpec)

/-- ITS FALSE NEIGHBOUR: 'it returns false'. Refute it at one input. -/
def dateInverseWrong : ChangeSpec := { name := "dateInverse", fn := fun _ => fun
  | [d] => { results := [.lit (.bool false)], args := [d] }
  | _ => none }
def DateInverseWrongFalsely : Prop := dateInverseRow.holds Try.pinned (OpenSpec.ofChange dateInverseWrong)

/-- 'fundadminlaw05.DateWeeks': WHATEVER THE INPUT: true; the input reads as it did. -/
def dateWeeksSpec : ChangeSpec := { name := "dateWeeks", fn := fun _ => fun
  | [d] => { results := [.lit (.bool true)], args := [d] }
  | _ => none }
def dateWeeksRow : OpenClaim := { program := "ytmjegmlchonlmaa", sum := "4507c185868648f1266e8d869d036975af8ae17fe7a8f0c15d309dda131986c7", func := "fundadmin/fundadminlaw05.DateWeeks", spec := "dateWeeks", apart := false }
def DateWeeksSaid : Prop := dateWeeksRow.holds Try.pinned (OpenSpec.ofChange dateWeeksSpec)

/-- ITS FALSE NEIGHBOUR: 'it returns false'. Refute it at one input. -/
def dateWeeksWrong : ChangeSpec := { name := "dateWeeks", fn := fun _ => fun
  | [d] => { results := [.lit (.bool false)], args := [d] }
  | _ => none }
def DateWeeksWrongFalsely : Prop := dateWeeksRow.holds Try.pinned (OpenSpec.ofChange dateWeeksWrong)

/-- 'fundadminlaw05.DateMonths': WHATEVER THE INPUT: true; the input reads as it did. -/
def dateMonthsSpec : ChangeSpec := { name := "dateMonths", fn := fun _ => fun
  | [d] => { results := [.lit (.bool true)], args := [d] }
  | _ => none }
def dateMonthsRow : OpenClaim := { program := "ytmjegmlchonlmaa", sum := "4507c185868648f1266e8d869d036975af8ae17fe7a8f0c15d309dda131986c7", func := "fundadmin/fundadminlaw05.DateMonths", spec := "dateMonths", apart := false }
def DateMonthsSaid : Prop := dateMonthsRow.holds Try.pinned (OpenSpec.ofChange dateMonthsSpec)

/-- ITS FALSE NEIGHBOUR: 'it returns false'. Refute it at one input. -/
def dateMonthsWrong : ChangeSpec := { name := "dateMonths", fn := fun _ => fun
  | [d] => { results := [.lit (.bool false)], args := [d] }
  | _ => none }
def DateMonthsWrongFalsely : Prop := dateMonthsRow.holds Try.pinned (OpenSpec.ofChange dateMonthsWrong)

/-- 'fundadminlaw05.DateExact': WHATEVER THE INPUT: true; the input reads as it did. -/
def dateExactSpec : ChangeSpec := { name := "dateExact", fn := fun _ => fun
  | [d1, d2, d3, d4, d5] => { results := [.lit (.bool true)], args := [d1, d2, d3, d4, d5] }
  | _ => none }
def dateExactRow : OpenClaim := { program := "ytmjegmlchonlmaa", sum := "4507c185868648f1266e8d869d036975af8ae17fe7a8f0c15d309dda131986c7", func := "fundadmin/fundadminlaw05.DateExact", spec := "dateExact", apart := false }
def DateExactSaid : Prop := dateExactRow.holds Try.pinned (OpenSpec.ofChange dateExactSpec)

/-- ITS FALSE NEIGHBOUR: 'it returns false'. Refute it at one input. -/
def dateExactWrong : ChangeSpec := { name := "dateExact", fn := fun _ => fun
  | [d1, d2, d3, d4, d5] => { results := [.lit (.bool false)], args := [d1, d2, d3, d4, d5] }
  | _ => none }
def DateExactWrongFalsely : Prop := dateExactRow.holds Try.pinned (OpenSpec.ofChange dateExactWrong)

/-- 'fundadminlaw05.DateDays': WHATEVER THE INPUT: true; the input reads as it did. -/
def dateDaysSpec : ChangeSpec := { name := "dateDays", fn := fun _ => fun
  | [d] => { results := [.lit (.bool true)], args := [d] }
  | _ => none }
def dateDaysRow : OpenClaim := { program := "ytmjegmlchonlmaa", sum := "4507c185868648f1266e8d869d036975af8ae17fe7a8f0c15d309dda131986c7", func := "fundadmin/fundadminlaw05.DateDays", spec := "dateDays", apart := false }
def DateDaysSaid : Prop := dateDaysRow.holds Try.pinned (OpenSpec.ofChange dateDaysSpec)

/-- ITS FALSE NEIGHBOUR: 'it returns false'. Refute it at one input. -/
def dateDaysWrong : ChangeSpec := { name := "dateDays", fn := fun _ => fun
  | [d] => { results := [.lit (.bool false)], args := [d] }
  | _ => none }
def DateDaysWrongFalsely : Prop := dateDaysRow.holds Try.pinned (OpenSpec.ofChange dateDaysWrong)

/-- 'fundadminlaw05.DateEnds': WHATEVER THE INPUT: true; the input reads as it did. -/
def dateEndsSpec : ChangeSpec := { name := "dateEnds", fn := fun _ => fun
  | [d] => { results := [.lit (.bool true)], args := [d] }
  | _ => none }
def dateEndsRow : OpenClaim := { program := "ytmjegmlchonlmaa", sum := "4507c185868648f1266e8d869d036975af8ae17fe7a8f0c15d309dda131986c7", func := "fundadmin/fundadminlaw05.DateEnds", spec := "dateEnds", apart := false }
def DateEndsSaid : Prop := dateEndsRow.holds Try.pinned (OpenSpec.ofChange dateEndsSpec)

/-- ITS FALSE NEIGHBOUR: 'it returns false'. Refute it at one input. -/
def dateEndsWrong : ChangeSpec := { name := "dateEnds", fn := fun _ => fun
  | [d] => { results := [.lit (.bool false)], args := [d] }
  | _ => none }
def DateEndsWrongFalsely : Prop := dateEndsRow.holds Try.pinned (OpenSpec.ofChange dateEndsWrong)

/-- 'fundadminlaw09.ScheduleFor': WHATEVER THE INPUT: true; the input reads as it did. -/
def scheduleForSpec : ChangeSpec := { name := "scheduleFor", fn := fun _ => fun
  | [d] => { results := [.lit (.bool true)], args := [d] }
  | _ => none }
def scheduleForRow : OpenClaim := { program := "ytmjegmlchonlmaa", sum := "4507c185868648f1266e8d869d036975af8ae17fe7a8f0c15d309dda131986c7", func := "fundadmin/fundadminlaw09.ScheduleFor", spec := "scheduleFor", unfollowed := true, recurses := true, apart := false }
def ScheduleForSaid : Prop := scheduleForRow.holds Try.pinned (OpenSpec.ofChange scheduleForSpec)

/-- ITS FALSE NEIGHBOUR: 'it returns false'. Refute it at one input. -/
def scheduleForWrong : ChangeSpec := { name := "scheduleFor", fn := fun _ => fun
  | [d] => { results := [.lit (.bool false)], args := [d] }
  | _ => none }
def ScheduleForWrongFalsely : Prop := scheduleForRow.holds Try.pinned (OpenSpec.ofChange scheduleForWrong)

/-- 'fundadminlaw09.ScheduleMonths': WHATEVER THE INPUT: true; the input reads as it did. -/
def scheduleMonthsSpec : ChangeSpec := { name := "scheduleMonths", fn := fun _ => fun
  | [d] => { results := [.lit (.bool true)], args := [d] }
  | _ => none }
def scheduleMonthsRow : OpenClaim := { program := "ytmjegmlchonlmaa", sum := "4507c185868648f1266e8d869d036975af8ae17fe7a8f0c15d309dda131986c7", func := "fundadmin/fundadminlaw09.ScheduleMonths", spec := "scheduleMonths", unfollowed := true, recurses := true, apart := false }
def ScheduleMonthsSaid : Prop := scheduleMonthsRow.holds Try.pinned (OpenSpec.ofChange scheduleMonthsSpec)

/-- ITS FALSE NEIGHBOUR: 'it returns false'. Refute it at one input. -/
def scheduleMonthsWrong : ChangeSpec := { name := "scheduleMonths", fn := fun _ => fun
  | [d] => { results := [.lit (.bool false)], args := [d] }
  | _ => none }
def ScheduleMonthsWrongFalsely : Prop := scheduleMonthsRow.holds Try.pinned (OpenSpec.ofChange scheduleMonthsWrong)

/-- 'fundadminlaw09.ScheduleExact': WHATEVER THE INPUT: true; the input reads as it did. -/
def scheduleExactSpec : ChangeSpec := { name := "scheduleExact", fn := fun _ => fun
  | [d1, d2, d3, d4] => { results := [.lit (.bool true)], args := [d1, d2, d3, d4] }
  | _ => none }
def scheduleExactRow : OpenClaim := { program := "ytmjegmlchonlmaa", sum := "4507c185868648f1266e8d869d036975af8ae17fe7a8f0c15d309dda131986c7", func := "fundadmin/fundadminlaw09.ScheduleExact", spec := "scheduleExact", unfollowed := true, recurses := true, apart := false }
def ScheduleExactSaid : Prop := scheduleExactRow.holds Try.pinned (OpenSpec.ofChange scheduleExactSpec)

/-- ITS FALSE NEIGHBOUR: 'it returns false'. Refute it at one input. -/
def scheduleExactWrong : ChangeSpec := { name := "scheduleExact", fn := fun _ => fun
  | [d1, d2, d3, d4] => { results := [.lit (.bool false)], args := [d1, d2, d3, d4] }
  | _ => none }
def ScheduleExactWrongFalsely : Prop := scheduleExactRow.holds Try.pinned (OpenSpec.ofChange scheduleExactWrong)

/-- 'fundadminlaw09.SchedulePlays': WHATEVER THE INPUT: true; the input reads as it did. -/
def schedulePlaysSpec : ChangeSpec := { name := "schedulePlays", fn := fun _ => fun
  | [d] => { results := [.lit (.bool true)], args := [d] }
  | _ => none }
def schedulePlaysRow : OpenClaim := { program := "ytmjegmlchonlmaa", sum := "4507c185868648f1266e8d869d036975af8ae17fe7a8f0c15d309dda131986c7", func := "fundadmin/fundadminlaw09.SchedulePlays", spec := "schedulePlays", unfollowed := true, recurses := true, apart := false }
def SchedulePlaysSaid : Prop := schedulePlaysRow.holds Try.pinned (OpenSpec.ofChange schedulePlaysSpec)

/-- ITS FALSE NEIGHBOUR: 'it returns false'. Refute it at one input. -/
def schedulePlaysWrong : ChangeSpec := { name := "schedulePlays", fn := fun _ => fun
  | [d] => { results := [.lit (.bool false)], args := [d] }
  | _ => none }
def SchedulePlaysWrongFalsely : Prop := schedulePlaysRow.holds Try.pinned (OpenSpec.ofChange schedulePlaysWrong)

/-- 'fundadminlaw09.ScheduleSpoilt': WHATEVER THE INPUT: true; the input reads as it did. -/
def scheduleSpoiltSpec : ChangeSpec := { name := "scheduleSpoilt", fn := fun _ => fun
  | [d] => { results := [.lit (.bool true)], args := [d] }
  | _ => none }
def scheduleSpoiltRow : OpenClaim := { program := "ytmjegmlchonlmaa", sum := "4507c185868648f1266e8d869d036975af8ae17fe7a8f0c15d309dda131986c7", func := "fundadmin/fundadminlaw09.ScheduleSpoilt", spec := "scheduleSpoilt", unfollowed := true, recurses := true, apart := false }
def ScheduleSpoiltSaid : Prop := scheduleSpoiltRow.holds Try.pinned (OpenSpec.ofChange scheduleSpoiltSpec)

/-- ITS FALSE NEIGHBOUR: 'it returns false'. Refute it at one input. -/
def scheduleSpoiltWrong : ChangeSpec := { name := "scheduleSpoilt", fn := fun _ => fun
  | [d] => { results := [.lit (.bool false)], args := [d] }
  | _ => none }
def ScheduleSpoiltWrongFalsely : Prop := scheduleSpoiltRow.holds Try.pinned (OpenSpec.ofChange scheduleSpoiltWrong)

/-- 'fundadminlaw09.ScheduleDeadlines': WHATEVER THE INPUT: true; the input reads as it did. -/
def scheduleDeadlinesSpec : ChangeSpec := { name := "scheduleDeadlines", fn := fun _ => fun
  | [d] => { results := [.lit (.bool true)], args := [d] }
  | _ => none }
def scheduleDeadlinesRow : OpenClaim := { program := "ytmjegmlchonlmaa", sum := "4507c185868648f1266e8d869d036975af8ae17fe7a8f0c15d309dda131986c7", func := "fundadmin/fundadminlaw09.ScheduleDeadlines", spec := "scheduleDeadlines", unfollowed := true, recurses := true, apart := false }
def ScheduleDeadlinesSaid : Prop := scheduleDeadlinesRow.holds Try.pinned (OpenSpec.ofChange scheduleDeadlinesSpec)

/-- ITS FALSE NEIGHBOUR: 'it returns false'. Refute it at one input. -/
def scheduleDeadlinesWrong : ChangeSpec := { name := "scheduleDeadlines", fn := fun _ => fun
  | [d] => { results := [.lit (.bool false)], args := [d] }
  | _ => none }
def ScheduleDeadlinesWrongFalsely : Prop := scheduleDeadlinesRow.holds Try.pinned (OpenSpec.ofChange scheduleDeadlinesWrong)

/-- 'fundadminlaw09.ScheduleWeeks': WHATEVER THE INPUT: true; the input reads as it did. -/
def scheduleWeeksSpec : ChangeSpec := { name := "scheduleWeeks", fn := fun _ => fun
  | [d] => { results := [.lit (.bool true)], args := [d] }
  | _ => none }
def scheduleWeeksRow : OpenClaim := { program := "ytmjegmlchonlmaa", sum := "4507c185868648f1266e8d869d036975af8ae17fe7a8f0c15d309dda131986c7", func := "fundadmin/fundadminlaw09.ScheduleWeeks", spec := "scheduleWeeks", unfollowed := true, recurses := true, apart := false }
def ScheduleWeeksSaid : Prop := scheduleWeeksRow.holds Try.pinned (OpenSpec.ofChange scheduleWeeksSpec)

/-- ITS FALSE NEIGHBOUR: 'it returns false'. Refute it at one input. -/
def scheduleWeeksWrong : ChangeSpec := { name := "scheduleWeeks", fn := fun _ => fun
  | [d] => { results := [.lit (.bool false)], args := [d] }
  | _ => none }
def ScheduleWeeksWrongFalsely : Prop := scheduleWeeksRow.holds Try.pinned (OpenSpec.ofChange scheduleWeeksWrong)

/- THE SECOND FORM. 'bulk': how many values and letters a reading holds, each counted each time it is reached (what is shared counts as often as it is met; a slice's spare places count too). A statement '..UptoSaid' is the law's where the arguments, and the package variables that the reading takes, are together of bulk at most 1048576: NARROWER than '..Said'. Prove '..Said' where nothing that the law and all that it calls make is longer than what came in: it says more and counts as full. Else prove '..UptoSaid'. A law counts once. -/
mutual
def uptoBulk {H : Type} : DataW H → Nat
  | .lit (.string bytes) => bytes.length + 1
  | .lit _ => 1
  | .nil => 1
  | .ptr d => uptoBulk d + 1
  | .slice elems spare => uptoBulkAll elems + uptoBulkAll spare + 1
  | .agg parts => uptoBulkAll parts + 1
  | .iface _ d => uptoBulk d + 1
  | .map entries => uptoBulkEntries entries + 1
  | .held _ => 1
def uptoBulkAll {H : Type} : List (DataW H) → Nat
  | [] => 0
  | d :: r => uptoBulk d + uptoBulkAll r
def uptoBulkEntries {H : Type} : List (Lit × DataW H) → Nat
  | [] => 0
  | x :: r => uptoBulkEntry x + uptoBulkEntries r
def uptoBulkEntry {H : Type} : Lit × DataW H → Nat
  | (.string bytes, d) => bytes.length + uptoBulk d + 1
  | (_, d) => uptoBulk d + 1
 end
def uptoSmall : (H : Type) → List (DataW H) → Bool := fun _ ds => decide (uptoBulkAll ds ≤ 1048576)
def OpenSpec.upto (s : _root_.Go.ChangeSpec) : _root_.Go.OpenSpec := { _root_.Go.OpenSpec.ofChange s with cond := some uptoSmall }

/-- 'fundadminlaw07.ZoneExact', WHERE WHAT IT READS IS OF BULK AT MOST 1048576: true; the input reads as it did. -/
def zoneExactUptoRow : OpenClaim := { program := "ytmjegmlchonlmaa", sum := "4507c185868648f1266e8d869d036975af8ae17fe7a8f0c15d309dda131986c7", func := "fundadmin/fundadminlaw07.ZoneExact", spec := "zoneExact", unfollowed := true, recurses := true, apart := false, narrowed := true }
def ZoneExactUptoSaid : Prop := zoneExactUptoRow.holds Try.pinned (OpenSpec.upto zoneExactSpec)

/-- 'fundadminlaw07.ZonePlays', WHERE WHAT IT READS IS OF BULK AT MOST 1048576: true; the input reads as it did. -/
def zonePlaysUptoRow : OpenClaim := { program := "ytmjegmlchonlmaa", sum := "4507c185868648f1266e8d869d036975af8ae17fe7a8f0c15d309dda131986c7", func := "fundadmin/fundadminlaw07.ZonePlays", spec := "zonePlays", unfollowed := true, recurses := true, apart := false, narrowed := true }
def ZonePlaysUptoSaid : Prop := zonePlaysUptoRow.holds Try.pinned (OpenSpec.upto zonePlaysSpec)

/-- 'fundadminlaw07.ZoneSpoilt', WHERE WHAT IT READS IS OF BULK AT MOST 1048576: true; the input reads as it did. -/
def zoneSpoiltUptoRow : OpenClaim := { program := "ytmjegmlchonlmaa", sum := "4507c185868648f1266e8d869d036975af8ae17fe7a8f0c15d309dda131986c7", func := "fundadmin/fundadminlaw07.ZoneSpoilt", spec := "zoneSpoilt", unfollowed := true, recurses := true, apart := false, narrowed := true }
def ZoneSpoiltUptoSaid : Prop := zoneSpoiltUptoRow.holds Try.pinned (OpenSpec.upto zoneSpoiltSpec)

/-- 'fundadminlaw07.ZoneMonotone', WHERE WHAT IT READS IS OF BULK AT MOST 1048576: true; the input reads as it did. -/
def zoneMonotoneUptoRow : OpenClaim := { program := "ytmjegmlchonlmaa", sum := "4507c185868648f1266e8d869d036975af8ae17fe7a8f0c15d309dda131986c7", func := "fundadmin/fundadminlaw07.ZoneMonotone", spec := "zoneMonotone", unfollowed := true, recurses := true, apart := false, narrowed := true }
def ZoneMonotoneUptoSaid : Prop := zoneMonotoneUptoRow.holds Try.pinned (OpenSpec.upto zoneMonotoneSpec)

/-- 'fundadminlaw07.ZoneInverse', WHERE WHAT IT READS IS OF BULK AT MOST 1048576: true; the input reads as it did. -/
def zoneInverseUptoRow : OpenClaim := { program := "ytmjegmlchonlmaa", sum := "4507c185868648f1266e8d869d036975af8ae17fe7a8f0c15d309dda131986c7", func := "fundadmin/fundadminlaw07.ZoneInverse", spec := "zoneInverse", unfollowed := true, recurses := true, apart := false, narrowed := true }
def ZoneInverseUptoSaid : Prop := zoneInverseUptoRow.holds Try.pinned (OpenSpec.upto zoneInverseSpec)

/-- 'fundadminlaw07.ZoneFixed', WHERE WHAT IT READS IS OF BULK AT MOST 1048576: true; the input reads as it did. -/
def zoneFixedUptoRow : OpenClaim := { program := "ytmjegmlchonlmaa", sum := "4507c185868648f1266e8d869d036975af8ae17fe7a8f0c15d309dda131986c7", func := "fundadmin/fundadminlaw07.ZoneFixed", spec := "zoneFixed", unfollowed := true, recurses := true, apart := false, narrowed := true }
def ZoneFixedUptoSaid : Prop := zoneFixedUptoRow.holds Try.pinned (OpenSpec.upto zoneFixedSpec)

/-- 'fundadminlaw05.DateTexts', WHERE WHAT IT READS IS OF BULK AT MOST 1048576: true; the input reads as it did. -/
def dateTextsUptoRow : OpenClaim := { program := "ytmjegmlchonlmaa", sum := "4507c185868648f1266e8d869d036975af8ae17fe7a8f0c15d309dda131986c7", func := "fundadmin/fundadminlaw05.DateTexts", spec := "dateTexts", apart := false, narrowed := true }
def DateTextsUptoSaid : Prop := dateTextsUptoRow.holds Try.pinned (OpenSpec.upto dateTextsSpec)

/-- 'fundadminlaw05.DateReads', WHERE WHAT IT READS IS OF BULK AT MOST 1048576: true; the input reads as it did. -/
def dateReadsUptoRow : OpenClaim := { program := "ytmjegmlchonlmaa", sum := "4507c185868648f1266e8d869d036975af8ae17fe7a8f0c15d309dda131986c7", func := "fundadmin/fundadminlaw05.DateReads", spec := "dateReads", apart := false, narrowed := true }
def DateReadsUptoSaid : Prop := dateReadsUptoRow.holds Try.pinned (OpenSpec.upto dateReadsSpec)

/-- 'fundadminlaw05.DateInverse', WHERE WHAT IT READS IS OF BULK AT MOST 1048576: true; the input reads as it did. -/
def dateInverseUptoRow : OpenClaim := { program := "ytmjegmlchonlmaa", sum := "4507c185868648f1266e8d869d036975af8ae17fe7a8f0c15d309dda131986c7", func := "fundadmin/fundadminlaw05.DateInverse", spec := "dateInverse", apart := false, narrowed := true }
def DateInverseUptoSaid : Prop := dateInverseUptoRow.holds Try.pinned (OpenSpec.upto dateInverseSpec)

/-- 'fundadminlaw05.DateWeeks', WHERE WHAT IT READS IS OF BULK AT MOST 1048576: true; the input reads as it did. -/
def dateWeeksUptoRow : OpenClaim := { program := "ytmjegmlchonlmaa", sum := "4507c185868648f1266e8d869d036975af8ae17fe7a8f0c15d309dda131986c7", func := "fundadmin/fundadminlaw05.DateWeeks", spec := "dateWeeks", apart := false, narrowed := true }
def DateWeeksUptoSaid : Prop := dateWeeksUptoRow.holds Try.pinned (OpenSpec.upto dateWeeksSpec)

/-- 'fundadminlaw05.DateMonths', WHERE WHAT IT READS IS OF BULK AT MOST 1048576: true; the input reads as it did. -/
def dateMonthsUptoRow : OpenClaim := { program := "ytmjegmlchonlmaa", sum := "4507c185868648f1266e8d869d036975af8ae17fe7a8f0c15d309dda131986c7", func := "fundadmin/fundadminlaw05.DateMonths", spec := "dateMonths", apart := false, narrowed := true }
def DateMonthsUptoSaid : Prop := dateMonthsUptoRow.holds Try.pinned (OpenSpec.upto dateMonthsSpec)

/-- 'fundadminlaw05.DateExact', WHERE WHAT IT READS IS OF BULK AT MOST 1048576: true; the input reads as it did. -/
def dateExactUptoRow : OpenClaim := { program := "ytmjegmlchonlmaa", sum := "4507c185868648f1266e8d869d036975af8ae17fe7a8f0c15d309dda131986c7", func := "fundadmin/fundadminlaw05.DateExact", spec := "dateExact", apart := false, narrowed := true }
def DateExactUptoSaid : Prop := dateExactUptoRow.holds Try.pinned (OpenSpec.upto dateExactSpec)

/-- 'fundadminlaw05.DateDays', WHERE WHAT IT READS IS OF BULK AT MOST 1048576: true; the input reads as it did. -/
def dateDaysUptoRow : OpenClaim := { program := "ytmjegmlchonlmaa", sum := "4507c185868648f1266e8d869d036975af8ae17fe7a8f0c15d309dda131986c7", func := "fundadmin/fundadminlaw05.DateDays", spec := "dateDays", apart := false, narrowed := true }
def DateDaysUptoSaid : Prop := dateDaysUptoRow.holds Try.pinned (OpenSpec.upto dateDaysSpec)

/-- 'fundadminlaw05.DateEnds', WHERE WHAT IT READS IS OF BULK AT MOST 1048576: true; the input reads as it did. -/
def dateEndsUptoRow : OpenClaim := { program := "ytmjegmlchonlmaa", sum := "4507c185868648f1266e8d869d036975af8ae17fe7a8f0c15d309dda131986c7", func := "fundadmin/fundadminlaw05.DateEnds", spec := "dateEnds", apart := false, narrowed := true }
def DateEndsUptoSaid : Prop := dateEndsUptoRow.holds Try.pinned (OpenSpec.upto dateEndsSpec)

/-- 'fundadminlaw09.ScheduleFor', WHERE WHAT IT READS IS OF BULK AT MOST 1048576: true; the input reads as it did. -/
def scheduleForUptoRow : OpenClaim := { program := "ytmjegmlchonlmaa", sum := "4507c185868648f1266e8d869d036975af8ae17fe7a8f0c15d309dda131986c7", func := "fundadmin/fundadminlaw09.ScheduleFor", spec := "scheduleFor", unfollowed := true, recurses := true, apart := false, narrowed := true }
def ScheduleForUptoSaid : Prop := scheduleForUptoRow.holds Try.pinned (OpenSpec.upto scheduleForSpec)

/-- 'fundadminlaw09.ScheduleMonths', WHERE WHAT IT READS IS OF BULK AT MOST 1048576: true; the input reads as it did. -/
def scheduleMonthsUptoRow : OpenClaim := { program := "ytmjegmlchonlmaa", sum := "4507c185868648f1266e8d869d036975af8ae17fe7a8f0c15d309dda131986c7", func := "fundadmin/fundadminlaw09.ScheduleMonths", spec := "scheduleMonths", unfollowed := true, recurses := true, apart := false, narrowed := true }
def ScheduleMonthsUptoSaid : Prop := scheduleMonthsUptoRow.holds Try.pinned (OpenSpec.upto scheduleMonthsSpec)

/-- 'fundadminlaw09.ScheduleExact', WHERE WHAT IT READS IS OF BULK AT MOST 1048576: true; the input reads as it did. -/
def scheduleExactUptoRow : OpenClaim := { program := "ytmjegmlchonlmaa", sum := "4507c185868648f1266e8d869d036975af8ae17fe7a8f0c15d309dda131986c7", func := "fundadmin/fundadminlaw09.ScheduleExact", spec := "scheduleExact", unfollowed := true, recurses := true, apart := false, narrowed := true }
def ScheduleExactUptoSaid : Prop := scheduleExactUptoRow.holds Try.pinned (OpenSpec.upto scheduleExactSpec)

/-- 'fundadminlaw09.SchedulePlays', WHERE WHAT IT READS IS OF BULK AT MOST 1048576: true; the input reads as it did. -/
def schedulePlaysUptoRow : OpenClaim := { program := "ytmjegmlchonlmaa", sum := "4507c185868648f1266e8d869d036975af8ae17fe7a8f0c15d309dda131986c7", func := "fundadmin/fundadminlaw09.SchedulePlays", spec := "schedulePlays", unfollowed := true, recurses := true, apart := false, narrowed := true }
def SchedulePlaysUptoSaid : Prop := schedulePlaysUptoRow.holds Try.pinned (OpenSpec.upto schedulePlaysSpec)

/-- 'fundadminlaw09.ScheduleSpoilt', WHERE WHAT IT READS IS OF BULK AT MOST 1048576: true; the input reads as it did. -/
def scheduleSpoiltUptoRow : OpenClaim := { program := "ytmjegmlchonlmaa", sum := "4507c185868648f1266e8d869d036975af8ae17fe7a8f0c15d309dda131986c7", func := "fundadmin/fundadminlaw09.ScheduleSpoilt", spec := "scheduleSpoilt", unfollowed := true, recurses := true, apart := false, narrowed := true }
def ScheduleSpoiltUptoSaid : Prop := scheduleSpoiltUptoRow.holds Try.pinned (OpenSpec.upto scheduleSpoiltSpec)

/-- 'fundadminlaw09.ScheduleDeadlines', WHERE WHAT IT READS IS OF BULK AT MOST 1048576: true; the input reads as it did. -/
def scheduleDeadlinesUptoRow : OpenClaim := { program := "ytmjegmlchonlmaa", sum := "4507c185868648f1266e8d869d036975af8ae17fe7a8f0c15d309dda131986c7", func := "fundadmin/fundadminlaw09.ScheduleDeadlines", spec := "scheduleDeadlines", unfollowed := true, recurses := true, apart := false, narrowed := true }
def ScheduleDeadlinesUptoSaid : Prop := scheduleDeadlinesUptoRow.holds Try.pinned (OpenSpec.upto scheduleDeadlinesSpec)

/-- 'fundadminlaw09.ScheduleWeeks', WHERE WHAT IT READS IS OF BULK AT MOST 1048576: true; the input reads as it did. -/
def scheduleWeeksUptoRow : OpenClaim := { program := "ytmjegmlchonlmaa", sum := "4507c185868648f1266e8d869d036975af8ae17fe7a8f0c15d309dda131986c7", func := "fundadmin/fundadminlaw09.ScheduleWeeks", spec := "scheduleWeeks", unfollowed := true, recurses := true, apart := false, narrowed := true }
def ScheduleWeeksUptoSaid : Prop := scheduleWeeksUptoRow.holds Try.pinned (OpenSpec.upto scheduleWeeksSpec)

end Rows
end Go.Proofs.Ytmjegmlchonlmaa
