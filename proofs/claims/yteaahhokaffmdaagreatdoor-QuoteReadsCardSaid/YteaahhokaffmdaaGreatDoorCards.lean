/-
  DERIVED. GIVEN WITH THE SEED: THE CARDS: each row of YteaahhokaffmdaaGreatDoorRows.lean that lists a variable, with what it lists TIED to the program's text (the seventh form; the later family's looks); each row that meets fmt, with fmt's text TOLD by the authors' own Lean function (tested against real Go, not proved from fmt's source: count such statements apart). THE CARD IS WHAT COUNTS. Prove the row's statement (the work); the ties are given (YteaahhokaffmdaaGreatDoorTie.lean); close each card by the builder's one call (the guide's Derived/Test/ToyasCard.lean, 'card_holds'). Laid BY PROGRAM, IN A SANDBOX (cutbox-door.mjs). By AI agents, Wed Nov 11 2026. No macro, syntax, notation, axiom, sorry.
-/
import Derived.Test.YteaahhokaffmdaaGreatDoorRows
import GoSem.ClaimSeven
namespace Go.Proofs.YteaahhokaffmdaaGreatDoor
namespace Rows

/-- THE TIED CARD OF 'fundadminlaw14.QuoteBooks'. -/
def quoteBooksCard : Claim7 := { stood := { row := quoteBooksRow, standIns := [], harness := (true, "1a28db224fee48460bc77fbed10b2de75e6b6fd7e30db477d99b55f0ec9931a9"), looks := true }, kinds := [], alts := [], laidByText := true, laidKinds := [.data, .data, .data, .data, .sentinel, .sentinel, .pinned], laidTests := true, laidLooks := .later }
def QuoteBooksCardSaid : Prop := Claim7.holds Tryz.pinned (.plain (OpenSpec.ofChange quoteBooksSpec)) quoteBooksCard

/-- THE TIED CARD OF 'fundadminlaw14.QuotePlays'. -/
def quotePlaysCard : Claim7 := { stood := { row := quotePlaysRow, standIns := [], harness := (true, "1a28db224fee48460bc77fbed10b2de75e6b6fd7e30db477d99b55f0ec9931a9"), looks := true }, kinds := [], alts := [], laidByText := true, laidKinds := [.data, .data, .data, .data, .sentinel, .sentinel, .pinned], laidTests := true, laidLooks := .later }
def QuotePlaysCardSaid : Prop := Claim7.holds Tryz.pinned (.plain (OpenSpec.ofChange quotePlaysSpec)) quotePlaysCard

/-- THE TIED CARD OF 'fundadminlaw14.QuoteCorrects'. -/
def quoteCorrectsCard : Claim7 := { stood := { row := quoteCorrectsRow, standIns := [], harness := (true, "1a28db224fee48460bc77fbed10b2de75e6b6fd7e30db477d99b55f0ec9931a9"), looks := true }, kinds := [], alts := [], laidByText := true, laidKinds := [.data, .data, .data, .data, .sentinel, .sentinel, .pinned], laidTests := true, laidLooks := .later }
def QuoteCorrectsCardSaid : Prop := Claim7.holds Tryz.pinned (.plain (OpenSpec.ofChange quoteCorrectsSpec)) quoteCorrectsCard

/-- THE TIED CARD OF 'fundadminlaw14.QuoteLines'. -/
def quoteLinesCard : Claim7 := { stood := { row := quoteLinesRow, standIns := [], harness := (true, "1a28db224fee48460bc77fbed10b2de75e6b6fd7e30db477d99b55f0ec9931a9"), looks := true }, kinds := [], alts := [], laidByText := true, laidKinds := [.data, .data, .data, .data, .sentinel, .sentinel, .pinned], laidTests := true, laidLooks := .later }
def QuoteLinesCardSaid : Prop := Claim7.holds Tryz.pinned (.plain (OpenSpec.ofChange quoteLinesSpec)) quoteLinesCard

/-- THE TIED CARD OF 'fundadminlaw14.QuoteReads'. -/
def quoteReadsCard : Claim7 := { stood := { row := quoteReadsRow, standIns := [], harness := (true, "1a28db224fee48460bc77fbed10b2de75e6b6fd7e30db477d99b55f0ec9931a9"), looks := true }, kinds := [], alts := [], laidByText := true, laidKinds := [.data, .data, .data, .data, .sentinel, .sentinel, .pinned], laidTests := true, laidLooks := .later }
def QuoteReadsCardSaid : Prop := Claim7.holds Tryz.pinned (.plain (OpenSpec.ofChange quoteReadsSpec)) quoteReadsCard

/-- THE TIED CARD OF 'fundadminlaw14.QuoteBack'. -/
def quoteBackCard : Claim7 := { stood := { row := quoteBackRow, standIns := [], harness := (true, "1a28db224fee48460bc77fbed10b2de75e6b6fd7e30db477d99b55f0ec9931a9"), looks := true }, kinds := [], alts := [], laidByText := true, laidKinds := [.data, .data, .data, .data, .sentinel, .sentinel, .pinned], laidTests := true, laidLooks := .later }
def QuoteBackCardSaid : Prop := Claim7.holds Tryz.pinned (.plain (OpenSpec.ofChange quoteBackSpec)) quoteBackCard

/-- THE SECOND FORM's CARD OF 'fundadminlaw14.QuoteBooks'. -/
def quoteBooksUptoCard : Claim7 := { stood := { row := quoteBooksUptoRow, standIns := [], harness := (true, "1a28db224fee48460bc77fbed10b2de75e6b6fd7e30db477d99b55f0ec9931a9"), looks := true }, kinds := [], alts := [], laidByText := true, laidKinds := [.data, .data, .data, .data, .sentinel, .sentinel, .pinned], laidTests := true, laidLooks := .later }
def QuoteBooksUptoCardSaid : Prop := Claim7.holds Tryz.pinned (.plain (OpenSpec.upto quoteBooksSpec)) quoteBooksUptoCard

/-- THE SECOND FORM's CARD OF 'fundadminlaw14.QuotePlays'. -/
def quotePlaysUptoCard : Claim7 := { stood := { row := quotePlaysUptoRow, standIns := [], harness := (true, "1a28db224fee48460bc77fbed10b2de75e6b6fd7e30db477d99b55f0ec9931a9"), looks := true }, kinds := [], alts := [], laidByText := true, laidKinds := [.data, .data, .data, .data, .sentinel, .sentinel, .pinned], laidTests := true, laidLooks := .later }
def QuotePlaysUptoCardSaid : Prop := Claim7.holds Tryz.pinned (.plain (OpenSpec.upto quotePlaysSpec)) quotePlaysUptoCard

/-- THE SECOND FORM's CARD OF 'fundadminlaw14.QuoteCorrects'. -/
def quoteCorrectsUptoCard : Claim7 := { stood := { row := quoteCorrectsUptoRow, standIns := [], harness := (true, "1a28db224fee48460bc77fbed10b2de75e6b6fd7e30db477d99b55f0ec9931a9"), looks := true }, kinds := [], alts := [], laidByText := true, laidKinds := [.data, .data, .data, .data, .sentinel, .sentinel, .pinned], laidTests := true, laidLooks := .later }
def QuoteCorrectsUptoCardSaid : Prop := Claim7.holds Tryz.pinned (.plain (OpenSpec.upto quoteCorrectsSpec)) quoteCorrectsUptoCard

/-- THE SECOND FORM's CARD OF 'fundadminlaw14.QuoteLines'. -/
def quoteLinesUptoCard : Claim7 := { stood := { row := quoteLinesUptoRow, standIns := [], harness := (true, "1a28db224fee48460bc77fbed10b2de75e6b6fd7e30db477d99b55f0ec9931a9"), looks := true }, kinds := [], alts := [], laidByText := true, laidKinds := [.data, .data, .data, .data, .sentinel, .sentinel, .pinned], laidTests := true, laidLooks := .later }
def QuoteLinesUptoCardSaid : Prop := Claim7.holds Tryz.pinned (.plain (OpenSpec.upto quoteLinesSpec)) quoteLinesUptoCard

/-- THE SECOND FORM's CARD OF 'fundadminlaw14.QuoteReads'. -/
def quoteReadsUptoCard : Claim7 := { stood := { row := quoteReadsUptoRow, standIns := [], harness := (true, "1a28db224fee48460bc77fbed10b2de75e6b6fd7e30db477d99b55f0ec9931a9"), looks := true }, kinds := [], alts := [], laidByText := true, laidKinds := [.data, .data, .data, .data, .sentinel, .sentinel, .pinned], laidTests := true, laidLooks := .later }
def QuoteReadsUptoCardSaid : Prop := Claim7.holds Tryz.pinned (.plain (OpenSpec.upto quoteReadsSpec)) quoteReadsUptoCard

/-- THE SECOND FORM's CARD OF 'fundadminlaw14.QuoteBack'. -/
def quoteBackUptoCard : Claim7 := { stood := { row := quoteBackUptoRow, standIns := [], harness := (true, "1a28db224fee48460bc77fbed10b2de75e6b6fd7e30db477d99b55f0ec9931a9"), looks := true }, kinds := [], alts := [], laidByText := true, laidKinds := [.data, .data, .data, .data, .sentinel, .sentinel, .pinned], laidTests := true, laidLooks := .later }
def QuoteBackUptoCardSaid : Prop := Claim7.holds Tryz.pinned (.plain (OpenSpec.upto quoteBackSpec)) quoteBackUptoCard
end Rows
end Go.Proofs.YteaahhokaffmdaaGreatDoor
