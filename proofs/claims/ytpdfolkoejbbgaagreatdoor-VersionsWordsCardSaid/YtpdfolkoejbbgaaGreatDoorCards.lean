/-
  DERIVED. GIVEN WITH THE SEED: THE CARDS: each row of YtpdfolkoejbbgaaGreatDoorRows.lean that lists a variable, with what it lists TIED to the program's text (the seventh form; the later family's looks); each row that meets fmt, with fmt's text TOLD by the authors' own Lean function (tested against real Go, not proved from fmt's source: count such statements apart). THE CARD IS WHAT COUNTS. Prove the row's statement (the work); the ties are given (YtpdfolkoejbbgaaGreatDoorTie.lean); close each card by the builder's one call (the guide's Derived/Test/ToyasCard.lean, 'card_holds'). Laid BY PROGRAM, IN A SANDBOX (cutbox-door.mjs). By AI agents, Wed Nov 11 2026. No macro, syntax, notation, axiom, sorry.
-/
import Derived.Test.YtpdfolkoejbbgaaGreatDoorRows
import GoSem.ClaimSeven
namespace Go.Proofs.YtpdfolkoejbbgaaGreatDoor
namespace Rows

/-- THE TIED CARD OF 'farandolelaw19.WordPath'. -/
def wordPathCard : Claim7 := { stood := { row := wordPathRow, standIns := [], harness := (true, "6dc8ad08d8b7fe015a73efdf219d45094ea27f066da33d0266b0d4dfe8f02b5f"), looks := false }, kinds := [], alts := [], laidByText := true, laidKinds := [.data, .pinned], laidTests := true, laidLooks := .later }
def WordPathCardSaid : Prop := Claim7.holds Tryz.pinned (.plain (OpenSpec.ofChange wordPathSpec)) wordPathCard

/-- THE TIED CARD OF 'farandolelaw31.VersionsCompare'. -/
def versionsCompareCard : Claim7 := { stood := { row := versionsCompareRow, standIns := [], harness := (true, "6dc8ad08d8b7fe015a73efdf219d45094ea27f066da33d0266b0d4dfe8f02b5f"), looks := false }, kinds := [], alts := [], laidByText := true, laidKinds := [.data, .pinned], laidTests := true, laidLooks := .later }
def VersionsCompareCardSaid : Prop := Claim7.holds Tryz.pinned (.plain (OpenSpec.ofChange versionsCompareSpec)) versionsCompareCard

/-- THE TIED CARD OF 'farandolelaw31.VersionsAfter'. -/
def versionsAfterCard : Claim7 := { stood := { row := versionsAfterRow, standIns := [], harness := (true, "6dc8ad08d8b7fe015a73efdf219d45094ea27f066da33d0266b0d4dfe8f02b5f"), looks := false }, kinds := [], alts := [], laidByText := true, laidKinds := [.data, .pinned], laidTests := true, laidLooks := .later }
def VersionsAfterCardSaid : Prop := Claim7.holds Tryz.pinned (.plain (OpenSpec.ofChange versionsAfterSpec)) versionsAfterCard

/-- THE TIED CARD OF 'farandolelaw31.VersionsSame'. -/
def versionsSameCard : Claim7 := { stood := { row := versionsSameRow, standIns := [], harness := (true, "6dc8ad08d8b7fe015a73efdf219d45094ea27f066da33d0266b0d4dfe8f02b5f"), looks := false }, kinds := [], alts := [], laidByText := true, laidKinds := [.data, .pinned], laidTests := true, laidLooks := .later }
def VersionsSameCardSaid : Prop := Claim7.holds Tryz.pinned (.plain (OpenSpec.ofChange versionsSameSpec)) versionsSameCard

/-- THE TIED CARD OF 'farandolelaw31.VersionsMore'. -/
def versionsMoreCard : Claim7 := { stood := { row := versionsMoreRow, standIns := [], harness := (true, "6dc8ad08d8b7fe015a73efdf219d45094ea27f066da33d0266b0d4dfe8f02b5f"), looks := false }, kinds := [], alts := [], laidByText := true, laidKinds := [.data, .pinned], laidTests := true, laidLooks := .later }
def VersionsMoreCardSaid : Prop := Claim7.holds Tryz.pinned (.plain (OpenSpec.ofChange versionsMoreSpec)) versionsMoreCard

/-- THE TIED CARD OF 'farandolelaw31.VersionsWords'. -/
def versionsWordsCard : Claim7 := { stood := { row := versionsWordsRow, standIns := [], harness := (true, "6dc8ad08d8b7fe015a73efdf219d45094ea27f066da33d0266b0d4dfe8f02b5f"), looks := false }, kinds := [], alts := [], laidByText := true, laidKinds := [.data, .pinned], laidTests := true, laidLooks := .later }
def VersionsWordsCardSaid : Prop := Claim7.holds Tryz.pinned (.plain (OpenSpec.ofChange versionsWordsSpec)) versionsWordsCard

/-- THE SECOND FORM's CARD OF 'farandolelaw19.WordPath'. -/
def wordPathUptoCard : Claim7 := { stood := { row := wordPathUptoRow, standIns := [], harness := (true, "6dc8ad08d8b7fe015a73efdf219d45094ea27f066da33d0266b0d4dfe8f02b5f"), looks := false }, kinds := [], alts := [], laidByText := true, laidKinds := [.data, .pinned], laidTests := true, laidLooks := .later }
def WordPathUptoCardSaid : Prop := Claim7.holds Tryz.pinned (.plain (OpenSpec.upto wordPathSpec)) wordPathUptoCard

/-- THE SECOND FORM's CARD OF 'farandolelaw31.VersionsCompare'. -/
def versionsCompareUptoCard : Claim7 := { stood := { row := versionsCompareUptoRow, standIns := [], harness := (true, "6dc8ad08d8b7fe015a73efdf219d45094ea27f066da33d0266b0d4dfe8f02b5f"), looks := false }, kinds := [], alts := [], laidByText := true, laidKinds := [.data, .pinned], laidTests := true, laidLooks := .later }
def VersionsCompareUptoCardSaid : Prop := Claim7.holds Tryz.pinned (.plain (OpenSpec.upto versionsCompareSpec)) versionsCompareUptoCard

/-- THE SECOND FORM's CARD OF 'farandolelaw31.VersionsAfter'. -/
def versionsAfterUptoCard : Claim7 := { stood := { row := versionsAfterUptoRow, standIns := [], harness := (true, "6dc8ad08d8b7fe015a73efdf219d45094ea27f066da33d0266b0d4dfe8f02b5f"), looks := false }, kinds := [], alts := [], laidByText := true, laidKinds := [.data, .pinned], laidTests := true, laidLooks := .later }
def VersionsAfterUptoCardSaid : Prop := Claim7.holds Tryz.pinned (.plain (OpenSpec.upto versionsAfterSpec)) versionsAfterUptoCard

/-- THE SECOND FORM's CARD OF 'farandolelaw31.VersionsSame'. -/
def versionsSameUptoCard : Claim7 := { stood := { row := versionsSameUptoRow, standIns := [], harness := (true, "6dc8ad08d8b7fe015a73efdf219d45094ea27f066da33d0266b0d4dfe8f02b5f"), looks := false }, kinds := [], alts := [], laidByText := true, laidKinds := [.data, .pinned], laidTests := true, laidLooks := .later }
def VersionsSameUptoCardSaid : Prop := Claim7.holds Tryz.pinned (.plain (OpenSpec.upto versionsSameSpec)) versionsSameUptoCard

/-- THE SECOND FORM's CARD OF 'farandolelaw31.VersionsMore'. -/
def versionsMoreUptoCard : Claim7 := { stood := { row := versionsMoreUptoRow, standIns := [], harness := (true, "6dc8ad08d8b7fe015a73efdf219d45094ea27f066da33d0266b0d4dfe8f02b5f"), looks := false }, kinds := [], alts := [], laidByText := true, laidKinds := [.data, .pinned], laidTests := true, laidLooks := .later }
def VersionsMoreUptoCardSaid : Prop := Claim7.holds Tryz.pinned (.plain (OpenSpec.upto versionsMoreSpec)) versionsMoreUptoCard

/-- THE SECOND FORM's CARD OF 'farandolelaw31.VersionsWords'. -/
def versionsWordsUptoCard : Claim7 := { stood := { row := versionsWordsUptoRow, standIns := [], harness := (true, "6dc8ad08d8b7fe015a73efdf219d45094ea27f066da33d0266b0d4dfe8f02b5f"), looks := false }, kinds := [], alts := [], laidByText := true, laidKinds := [.data, .pinned], laidTests := true, laidLooks := .later }
def VersionsWordsUptoCardSaid : Prop := Claim7.holds Tryz.pinned (.plain (OpenSpec.upto versionsWordsSpec)) versionsWordsUptoCard
end Rows
end Go.Proofs.YtpdfolkoejbbgaaGreatDoor
