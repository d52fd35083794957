/-
  DERIVED. GIVEN WITH THE SEED: THE CARDS: each row of YtpaodheilchfnaaGreatDoorRows.lean that lists a variable, with what it lists TIED to the program's text (the seventh form; the later family's looks); each row that meets fmt, with fmt's text TOLD by the authors' own Lean function (tested against real Go, not proved from fmt's source: count such statements apart). THE CARD IS WHAT COUNTS. Prove the row's statement (the work); the ties are given (YtpaodheilchfnaaGreatDoorTie.lean); close each card by the builder's one call (the guide's Derived/Test/ToyasCard.lean, 'card_holds'). Laid BY PROGRAM, IN A SANDBOX (cutbox-door.mjs). By AI agents, Wed Nov 11 2026. No macro, syntax, notation, axiom, sorry.
-/
import Derived.Test.YtpaodheilchfnaaGreatDoorRows
import GoSem.ClaimSeven
namespace Go.Proofs.YtpaodheilchfnaaGreatDoor
namespace Rows

/-- THE TIED CARD OF 'fundadminlaw03.DecimalMonotone'. -/
def decimalMonotoneCard : Claim7 := { stood := { row := decimalMonotoneRow, standIns := [], harness := (true, "e14f2ecb80e5c20092e7057572625876a291e0a5eb73de3c5d66669267b2a168"), looks := true }, kinds := [], alts := [], laidByText := true, laidKinds := [.data, .data, .data, .sentinel, .sentinel], laidTests := true, laidLooks := .later }
def DecimalMonotoneCardSaid : Prop := Claim7.holds Tryz.pinned (.plain (OpenSpec.ofChange decimalMonotoneSpec)) decimalMonotoneCard

/-- THE TIED CARD OF 'fundadminlaw03.DecimalTexts'. -/
def decimalTextsCard : Claim7 := { stood := { row := decimalTextsRow, standIns := [], harness := (true, "e14f2ecb80e5c20092e7057572625876a291e0a5eb73de3c5d66669267b2a168"), looks := true }, kinds := [], alts := [], laidByText := true, laidKinds := [.data, .data, .data, .sentinel, .sentinel], laidTests := true, laidLooks := .later }
def DecimalTextsCardSaid : Prop := Claim7.holds Tryz.pinned (.plain (OpenSpec.ofChange decimalTextsSpec)) decimalTextsCard

/-- THE TIED CARD OF 'fundadminlaw03.DecimalReads'. -/
def decimalReadsCard : Claim7 := { stood := { row := decimalReadsRow, standIns := [], harness := (true, "e14f2ecb80e5c20092e7057572625876a291e0a5eb73de3c5d66669267b2a168"), looks := true }, kinds := [], alts := [], laidByText := true, laidKinds := [.data, .data, .data, .sentinel, .sentinel], laidTests := true, laidLooks := .later }
def DecimalReadsCardSaid : Prop := Claim7.holds Tryz.pinned (.plain (OpenSpec.ofChange decimalReadsSpec)) decimalReadsCard

/-- THE TIED CARD OF 'fundadminlaw03.DecimalExact'. -/
def decimalExactCard : Claim7 := { stood := { row := decimalExactRow, standIns := [], harness := (true, "e14f2ecb80e5c20092e7057572625876a291e0a5eb73de3c5d66669267b2a168"), looks := true }, kinds := [], alts := [], laidByText := true, laidKinds := [.data, .data, .data, .sentinel, .sentinel], laidTests := true, laidLooks := .later }
def DecimalExactCardSaid : Prop := Claim7.holds Tryz.pinned (.plain (OpenSpec.ofChange decimalExactSpec)) decimalExactCard

/-- THE TIED CARD OF 'fundadminlaw03.DecimalRounds'. -/
def decimalRoundsCard : Claim7 := { stood := { row := decimalRoundsRow, standIns := [], harness := (true, "e14f2ecb80e5c20092e7057572625876a291e0a5eb73de3c5d66669267b2a168"), looks := true }, kinds := [], alts := [], laidByText := true, laidKinds := [.data, .data, .data, .sentinel, .sentinel], laidTests := true, laidLooks := .later }
def DecimalRoundsCardSaid : Prop := Claim7.holds Tryz.pinned (.plain (OpenSpec.ofChange decimalRoundsSpec)) decimalRoundsCard

/-- THE TIED CARD OF 'fundadminlaw03.DecimalNear'. -/
def decimalNearCard : Claim7 := { stood := { row := decimalNearRow, standIns := [], harness := (true, "e14f2ecb80e5c20092e7057572625876a291e0a5eb73de3c5d66669267b2a168"), looks := true }, kinds := [], alts := [], laidByText := true, laidKinds := [.data, .data, .data, .sentinel, .sentinel], laidTests := true, laidLooks := .later }
def DecimalNearCardSaid : Prop := Claim7.holds Tryz.pinned (.plain (OpenSpec.ofChange decimalNearSpec)) decimalNearCard

/-- THE TIED CARD OF 'fundadminlaw03.DecimalFormats'. -/
def decimalFormatsCard : Claim7 := { stood := { row := decimalFormatsRow, standIns := [], harness := (true, "e14f2ecb80e5c20092e7057572625876a291e0a5eb73de3c5d66669267b2a168"), looks := true }, kinds := [], alts := [], laidByText := true, laidKinds := [.data, .data, .data, .data, .sentinel, .sentinel, .pinned], laidTests := true, laidLooks := .later }
def DecimalFormatsCardSaid : Prop := Claim7.holds Tryz.pinned (.plain (OpenSpec.ofChange decimalFormatsSpec)) decimalFormatsCard

/-- THE TIED CARD OF 'fundadminlaw03.DecimalBack'. -/
def decimalBackCard : Claim7 := { stood := { row := decimalBackRow, standIns := [], harness := (true, "e14f2ecb80e5c20092e7057572625876a291e0a5eb73de3c5d66669267b2a168"), looks := true }, kinds := [], alts := [], laidByText := true, laidKinds := [.data, .data, .data, .data, .sentinel, .sentinel, .pinned], laidTests := true, laidLooks := .later }
def DecimalBackCardSaid : Prop := Claim7.holds Tryz.pinned (.plain (OpenSpec.ofChange decimalBackSpec)) decimalBackCard

/-- THE SECOND FORM's CARD OF 'fundadminlaw03.DecimalMonotone'. -/
def decimalMonotoneUptoCard : Claim7 := { stood := { row := decimalMonotoneUptoRow, standIns := [], harness := (true, "e14f2ecb80e5c20092e7057572625876a291e0a5eb73de3c5d66669267b2a168"), looks := true }, kinds := [], alts := [], laidByText := true, laidKinds := [.data, .data, .data, .sentinel, .sentinel], laidTests := true, laidLooks := .later }
def DecimalMonotoneUptoCardSaid : Prop := Claim7.holds Tryz.pinned (.plain (OpenSpec.upto decimalMonotoneSpec)) decimalMonotoneUptoCard

/-- THE SECOND FORM's CARD OF 'fundadminlaw03.DecimalTexts'. -/
def decimalTextsUptoCard : Claim7 := { stood := { row := decimalTextsUptoRow, standIns := [], harness := (true, "e14f2ecb80e5c20092e7057572625876a291e0a5eb73de3c5d66669267b2a168"), looks := true }, kinds := [], alts := [], laidByText := true, laidKinds := [.data, .data, .data, .sentinel, .sentinel], laidTests := true, laidLooks := .later }
def DecimalTextsUptoCardSaid : Prop := Claim7.holds Tryz.pinned (.plain (OpenSpec.upto decimalTextsSpec)) decimalTextsUptoCard

/-- THE SECOND FORM's CARD OF 'fundadminlaw03.DecimalReads'. -/
def decimalReadsUptoCard : Claim7 := { stood := { row := decimalReadsUptoRow, standIns := [], harness := (true, "e14f2ecb80e5c20092e7057572625876a291e0a5eb73de3c5d66669267b2a168"), looks := true }, kinds := [], alts := [], laidByText := true, laidKinds := [.data, .data, .data, .sentinel, .sentinel], laidTests := true, laidLooks := .later }
def DecimalReadsUptoCardSaid : Prop := Claim7.holds Tryz.pinned (.plain (OpenSpec.upto decimalReadsSpec)) decimalReadsUptoCard

/-- THE SECOND FORM's CARD OF 'fundadminlaw03.DecimalExact'. -/
def decimalExactUptoCard : Claim7 := { stood := { row := decimalExactUptoRow, standIns := [], harness := (true, "e14f2ecb80e5c20092e7057572625876a291e0a5eb73de3c5d66669267b2a168"), looks := true }, kinds := [], alts := [], laidByText := true, laidKinds := [.data, .data, .data, .sentinel, .sentinel], laidTests := true, laidLooks := .later }
def DecimalExactUptoCardSaid : Prop := Claim7.holds Tryz.pinned (.plain (OpenSpec.upto decimalExactSpec)) decimalExactUptoCard

/-- THE SECOND FORM's CARD OF 'fundadminlaw03.DecimalRounds'. -/
def decimalRoundsUptoCard : Claim7 := { stood := { row := decimalRoundsUptoRow, standIns := [], harness := (true, "e14f2ecb80e5c20092e7057572625876a291e0a5eb73de3c5d66669267b2a168"), looks := true }, kinds := [], alts := [], laidByText := true, laidKinds := [.data, .data, .data, .sentinel, .sentinel], laidTests := true, laidLooks := .later }
def DecimalRoundsUptoCardSaid : Prop := Claim7.holds Tryz.pinned (.plain (OpenSpec.upto decimalRoundsSpec)) decimalRoundsUptoCard

/-- THE SECOND FORM's CARD OF 'fundadminlaw03.DecimalNear'. -/
def decimalNearUptoCard : Claim7 := { stood := { row := decimalNearUptoRow, standIns := [], harness := (true, "e14f2ecb80e5c20092e7057572625876a291e0a5eb73de3c5d66669267b2a168"), looks := true }, kinds := [], alts := [], laidByText := true, laidKinds := [.data, .data, .data, .sentinel, .sentinel], laidTests := true, laidLooks := .later }
def DecimalNearUptoCardSaid : Prop := Claim7.holds Tryz.pinned (.plain (OpenSpec.upto decimalNearSpec)) decimalNearUptoCard

/-- THE SECOND FORM's CARD OF 'fundadminlaw03.DecimalFormats'. -/
def decimalFormatsUptoCard : Claim7 := { stood := { row := decimalFormatsUptoRow, standIns := [], harness := (true, "e14f2ecb80e5c20092e7057572625876a291e0a5eb73de3c5d66669267b2a168"), looks := true }, kinds := [], alts := [], laidByText := true, laidKinds := [.data, .data, .data, .data, .sentinel, .sentinel, .pinned], laidTests := true, laidLooks := .later }
def DecimalFormatsUptoCardSaid : Prop := Claim7.holds Tryz.pinned (.plain (OpenSpec.upto decimalFormatsSpec)) decimalFormatsUptoCard

/-- THE SECOND FORM's CARD OF 'fundadminlaw03.DecimalBack'. -/
def decimalBackUptoCard : Claim7 := { stood := { row := decimalBackUptoRow, standIns := [], harness := (true, "e14f2ecb80e5c20092e7057572625876a291e0a5eb73de3c5d66669267b2a168"), looks := true }, kinds := [], alts := [], laidByText := true, laidKinds := [.data, .data, .data, .data, .sentinel, .sentinel, .pinned], laidTests := true, laidLooks := .later }
def DecimalBackUptoCardSaid : Prop := Claim7.holds Tryz.pinned (.plain (OpenSpec.upto decimalBackSpec)) decimalBackUptoCard
end Rows
end Go.Proofs.YtpaodheilchfnaaGreatDoor
