/-
  DERIVED. GIVEN WITH THE SEED: THE CARDS: each row of YticeobjphcmggaaGreatDoorRows.lean that lists a variable, with what it lists TIED to the program's text (the seventh form; the later family's looks); each row that meets fmt, with fmt's text TOLD by the authors' own Lean function (tested against real Go, not proved from fmt's source: count such statements apart). THE CARD IS WHAT COUNTS. Prove the row's statement (the work); the ties are given (YticeobjphcmggaaGreatDoorTie.lean); close each card by the builder's one call (the guide's Derived/Test/ToyasCard.lean, 'card_holds'). Laid BY PROGRAM, IN A SANDBOX (cutbox-door.mjs). By AI agents, Wed Nov 11 2026. No macro, syntax, notation, axiom, sorry.
-/
import Derived.Test.YticeobjphcmggaaGreatDoorRows
import GoSem.ClaimSeven
namespace Go.Proofs.YticeobjphcmggaaGreatDoor
namespace Rows

/-- THE TIED CARD OF 'farandolelaw20.FitRun'. -/
def fitRunCard : Claim7 := { stood := { row := fitRunRow, standIns := [], harness := (true, "5a7d8dad95264c724f4609a3a515cd5c0a5952b7c0a2aa215c9770f6e91a9970"), looks := false }, kinds := [], alts := [], laidByText := true, laidKinds := [.data, .pinned], laidTests := true, laidLooks := .later }
def FitRunCardSaid : Prop := Claim7.holds Tryz.pinned (.plain (OpenSpec.ofChange fitRunSpec)) fitRunCard

/-- THE TIED CARD OF 'farandolelaw20.FitNext'. -/
def fitNextCard : Claim7 := { stood := { row := fitNextRow, standIns := [], harness := (true, "5a7d8dad95264c724f4609a3a515cd5c0a5952b7c0a2aa215c9770f6e91a9970"), looks := false }, kinds := [], alts := [], laidByText := true, laidKinds := [.data, .pinned], laidTests := true, laidLooks := .later }
def FitNextCardSaid : Prop := Claim7.holds Tryz.pinned (.plain (OpenSpec.ofChange fitNextSpec)) fitNextCard

/-- THE TIED CARD OF 'farandolelaw20.FitValues'. -/
def fitValuesCard : Claim7 := { stood := { row := fitValuesRow, standIns := [], harness := (true, "5a7d8dad95264c724f4609a3a515cd5c0a5952b7c0a2aa215c9770f6e91a9970"), looks := false }, kinds := [], alts := [], laidByText := true, laidKinds := [.data, .pinned], laidTests := true, laidLooks := .later }
def FitValuesCardSaid : Prop := Claim7.holds Tryz.pinned (.plain (OpenSpec.ofChange fitValuesSpec)) fitValuesCard

/-- THE TIED CARD OF 'farandolelaw20.FitFound'. -/
def fitFoundCard : Claim7 := { stood := { row := fitFoundRow, standIns := [], harness := (true, "5a7d8dad95264c724f4609a3a515cd5c0a5952b7c0a2aa215c9770f6e91a9970"), looks := false }, kinds := [], alts := [], laidByText := true, laidKinds := [.data, .pinned], laidTests := true, laidLooks := .later }
def FitFoundCardSaid : Prop := Claim7.holds Tryz.pinned (.plain (OpenSpec.ofChange fitFoundSpec)) fitFoundCard

/-- THE TIED CARD OF 'farandolelaw20.FitCut'. -/
def fitCutCard : Claim7 := { stood := { row := fitCutRow, standIns := [], harness := (true, "5a7d8dad95264c724f4609a3a515cd5c0a5952b7c0a2aa215c9770f6e91a9970"), looks := false }, kinds := [], alts := [], laidByText := true, laidKinds := [.data, .pinned], laidTests := true, laidLooks := .later }
def FitCutCardSaid : Prop := Claim7.holds Tryz.pinned (.plain (OpenSpec.ofChange fitCutSpec)) fitCutCard

/-- THE TIED CARD OF 'farandolelaw20.FitWords'. -/
def fitWordsCard : Claim7 := { stood := { row := fitWordsRow, standIns := [], harness := (true, "5a7d8dad95264c724f4609a3a515cd5c0a5952b7c0a2aa215c9770f6e91a9970"), looks := false }, kinds := [], alts := [], laidByText := true, laidKinds := [.data, .pinned], laidTests := true, laidLooks := .later }
def FitWordsCardSaid : Prop := Claim7.holds Tryz.pinned (.plain (OpenSpec.ofChange fitWordsSpec)) fitWordsCard

/-- THE SECOND FORM's CARD OF 'farandolelaw20.FitRun'. -/
def fitRunUptoCard : Claim7 := { stood := { row := fitRunUptoRow, standIns := [], harness := (true, "5a7d8dad95264c724f4609a3a515cd5c0a5952b7c0a2aa215c9770f6e91a9970"), looks := false }, kinds := [], alts := [], laidByText := true, laidKinds := [.data, .pinned], laidTests := true, laidLooks := .later }
def FitRunUptoCardSaid : Prop := Claim7.holds Tryz.pinned (.plain (OpenSpec.upto fitRunSpec)) fitRunUptoCard

/-- THE SECOND FORM's CARD OF 'farandolelaw20.FitNext'. -/
def fitNextUptoCard : Claim7 := { stood := { row := fitNextUptoRow, standIns := [], harness := (true, "5a7d8dad95264c724f4609a3a515cd5c0a5952b7c0a2aa215c9770f6e91a9970"), looks := false }, kinds := [], alts := [], laidByText := true, laidKinds := [.data, .pinned], laidTests := true, laidLooks := .later }
def FitNextUptoCardSaid : Prop := Claim7.holds Tryz.pinned (.plain (OpenSpec.upto fitNextSpec)) fitNextUptoCard

/-- THE SECOND FORM's CARD OF 'farandolelaw20.FitValues'. -/
def fitValuesUptoCard : Claim7 := { stood := { row := fitValuesUptoRow, standIns := [], harness := (true, "5a7d8dad95264c724f4609a3a515cd5c0a5952b7c0a2aa215c9770f6e91a9970"), looks := false }, kinds := [], alts := [], laidByText := true, laidKinds := [.data, .pinned], laidTests := true, laidLooks := .later }
def FitValuesUptoCardSaid : Prop := Claim7.holds Tryz.pinned (.plain (OpenSpec.upto fitValuesSpec)) fitValuesUptoCard

/-- THE SECOND FORM's CARD OF 'farandolelaw20.FitFound'. -/
def fitFoundUptoCard : Claim7 := { stood := { row := fitFoundUptoRow, standIns := [], harness := (true, "5a7d8dad95264c724f4609a3a515cd5c0a5952b7c0a2aa215c9770f6e91a9970"), looks := false }, kinds := [], alts := [], laidByText := true, laidKinds := [.data, .pinned], laidTests := true, laidLooks := .later }
def FitFoundUptoCardSaid : Prop := Claim7.holds Tryz.pinned (.plain (OpenSpec.upto fitFoundSpec)) fitFoundUptoCard

/-- THE SECOND FORM's CARD OF 'farandolelaw20.FitCut'. -/
def fitCutUptoCard : Claim7 := { stood := { row := fitCutUptoRow, standIns := [], harness := (true, "5a7d8dad95264c724f4609a3a515cd5c0a5952b7c0a2aa215c9770f6e91a9970"), looks := false }, kinds := [], alts := [], laidByText := true, laidKinds := [.data, .pinned], laidTests := true, laidLooks := .later }
def FitCutUptoCardSaid : Prop := Claim7.holds Tryz.pinned (.plain (OpenSpec.upto fitCutSpec)) fitCutUptoCard

/-- THE SECOND FORM's CARD OF 'farandolelaw20.FitWords'. -/
def fitWordsUptoCard : Claim7 := { stood := { row := fitWordsUptoRow, standIns := [], harness := (true, "5a7d8dad95264c724f4609a3a515cd5c0a5952b7c0a2aa215c9770f6e91a9970"), looks := false }, kinds := [], alts := [], laidByText := true, laidKinds := [.data, .pinned], laidTests := true, laidLooks := .later }
def FitWordsUptoCardSaid : Prop := Claim7.holds Tryz.pinned (.plain (OpenSpec.upto fitWordsSpec)) fitWordsUptoCard
end Rows
end Go.Proofs.YticeobjphcmggaaGreatDoor
