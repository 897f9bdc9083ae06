/-
  DERIVED. GIVEN WITH THE SEED: THE CARDS: each row of YtbfebdbdoclagaaGreatDoorRows.lean that lists a variable, with what it lists TIED to the program's text (the seventh form; the later family's looks); each row that meets fmt, with fmt's text TOLD by the authors' own Lean function (tested against real Go, not proved from fmt's source: count such statements apart). THE CARD IS WHAT COUNTS. Prove the row's statement (the work); the ties are given (YtbfebdbdoclagaaGreatDoorTie.lean); close each card by the builder's one call (the guide's Derived/Test/ToyasCard.lean, 'card_holds'). Laid BY PROGRAM, IN A SANDBOX (cutbox-door.mjs). By AI agents, Wed Nov 11 2026. No macro, syntax, notation, axiom, sorry.
-/
import Derived.Test.YtbfebdbdoclagaaGreatDoorRows
import GoSem.ClaimSeven
namespace Go.Proofs.YtbfebdbdoclagaaGreatDoor
namespace Rows

/-- THE TIED CARD OF 'farandolelaw22.EarlyFinds'. -/
def earlyFindsCard : Claim7 := { stood := { row := earlyFindsRow, standIns := [], harness := (true, "d042a984f76830503bbb17fe02f7c3308d616e009adbcbec7eb6ef20c3db38ee"), looks := false }, kinds := [], alts := [], laidByText := true, laidKinds := [.data, .pinned], laidTests := true, laidLooks := .later }
def EarlyFindsCardSaid : Prop := Claim7.holds Tryz.pinned (.plain (OpenSpec.ofChange earlyFindsSpec)) earlyFindsCard

/-- THE TIED CARD OF 'farandolelaw22.EarlyTwo'. -/
def earlyTwoCard : Claim7 := { stood := { row := earlyTwoRow, standIns := [], harness := (true, "d042a984f76830503bbb17fe02f7c3308d616e009adbcbec7eb6ef20c3db38ee"), looks := false }, kinds := [], alts := [], laidByText := true, laidKinds := [.data, .pinned], laidTests := true, laidLooks := .later }
def EarlyTwoCardSaid : Prop := Claim7.holds Tryz.pinned (.plain (OpenSpec.ofChange earlyTwoSpec)) earlyTwoCard

/-- THE TIED CARD OF 'farandolelaw22.EarlyBlocks'. -/
def earlyBlocksCard : Claim7 := { stood := { row := earlyBlocksRow, standIns := [], harness := (true, "d042a984f76830503bbb17fe02f7c3308d616e009adbcbec7eb6ef20c3db38ee"), looks := false }, kinds := [], alts := [], laidByText := true, laidKinds := [.data, .pinned], laidTests := true, laidLooks := .later }
def EarlyBlocksCardSaid : Prop := Claim7.holds Tryz.pinned (.plain (OpenSpec.ofChange earlyBlocksSpec)) earlyBlocksCard

/-- THE TIED CARD OF 'farandolelaw22.EarlyPaths'. -/
def earlyPathsCard : Claim7 := { stood := { row := earlyPathsRow, standIns := [], harness := (true, "d042a984f76830503bbb17fe02f7c3308d616e009adbcbec7eb6ef20c3db38ee"), looks := false }, kinds := [], alts := [], laidByText := true, laidKinds := [.data, .pinned], laidTests := true, laidLooks := .later }
def EarlyPathsCardSaid : Prop := Claim7.holds Tryz.pinned (.plain (OpenSpec.ofChange earlyPathsSpec)) earlyPathsCard

/-- THE TIED CARD OF 'farandolelaw22.EarlyRight'. -/
def earlyRightCard : Claim7 := { stood := { row := earlyRightRow, standIns := [], harness := (true, "d042a984f76830503bbb17fe02f7c3308d616e009adbcbec7eb6ef20c3db38ee"), looks := false }, kinds := [], alts := [], laidByText := true, laidKinds := [.data, .pinned], laidTests := true, laidLooks := .later }
def EarlyRightCardSaid : Prop := Claim7.holds Tryz.pinned (.plain (OpenSpec.ofChange earlyRightSpec)) earlyRightCard

/-- THE TIED CARD OF 'farandolelaw22.EarlyLeast'. -/
def earlyLeastCard : Claim7 := { stood := { row := earlyLeastRow, standIns := [], harness := (true, "d042a984f76830503bbb17fe02f7c3308d616e009adbcbec7eb6ef20c3db38ee"), looks := false }, kinds := [], alts := [], laidByText := true, laidKinds := [.data, .pinned], laidTests := true, laidLooks := .later }
def EarlyLeastCardSaid : Prop := Claim7.holds Tryz.pinned (.plain (OpenSpec.ofChange earlyLeastSpec)) earlyLeastCard

/-- THE SECOND FORM's CARD OF 'farandolelaw22.EarlyFinds'. -/
def earlyFindsUptoCard : Claim7 := { stood := { row := earlyFindsUptoRow, standIns := [], harness := (true, "d042a984f76830503bbb17fe02f7c3308d616e009adbcbec7eb6ef20c3db38ee"), looks := false }, kinds := [], alts := [], laidByText := true, laidKinds := [.data, .pinned], laidTests := true, laidLooks := .later }
def EarlyFindsUptoCardSaid : Prop := Claim7.holds Tryz.pinned (.plain (OpenSpec.upto earlyFindsSpec)) earlyFindsUptoCard

/-- THE SECOND FORM's CARD OF 'farandolelaw22.EarlyTwo'. -/
def earlyTwoUptoCard : Claim7 := { stood := { row := earlyTwoUptoRow, standIns := [], harness := (true, "d042a984f76830503bbb17fe02f7c3308d616e009adbcbec7eb6ef20c3db38ee"), looks := false }, kinds := [], alts := [], laidByText := true, laidKinds := [.data, .pinned], laidTests := true, laidLooks := .later }
def EarlyTwoUptoCardSaid : Prop := Claim7.holds Tryz.pinned (.plain (OpenSpec.upto earlyTwoSpec)) earlyTwoUptoCard

/-- THE SECOND FORM's CARD OF 'farandolelaw22.EarlyBlocks'. -/
def earlyBlocksUptoCard : Claim7 := { stood := { row := earlyBlocksUptoRow, standIns := [], harness := (true, "d042a984f76830503bbb17fe02f7c3308d616e009adbcbec7eb6ef20c3db38ee"), looks := false }, kinds := [], alts := [], laidByText := true, laidKinds := [.data, .pinned], laidTests := true, laidLooks := .later }
def EarlyBlocksUptoCardSaid : Prop := Claim7.holds Tryz.pinned (.plain (OpenSpec.upto earlyBlocksSpec)) earlyBlocksUptoCard

/-- THE SECOND FORM's CARD OF 'farandolelaw22.EarlyPaths'. -/
def earlyPathsUptoCard : Claim7 := { stood := { row := earlyPathsUptoRow, standIns := [], harness := (true, "d042a984f76830503bbb17fe02f7c3308d616e009adbcbec7eb6ef20c3db38ee"), looks := false }, kinds := [], alts := [], laidByText := true, laidKinds := [.data, .pinned], laidTests := true, laidLooks := .later }
def EarlyPathsUptoCardSaid : Prop := Claim7.holds Tryz.pinned (.plain (OpenSpec.upto earlyPathsSpec)) earlyPathsUptoCard

/-- THE SECOND FORM's CARD OF 'farandolelaw22.EarlyRight'. -/
def earlyRightUptoCard : Claim7 := { stood := { row := earlyRightUptoRow, standIns := [], harness := (true, "d042a984f76830503bbb17fe02f7c3308d616e009adbcbec7eb6ef20c3db38ee"), looks := false }, kinds := [], alts := [], laidByText := true, laidKinds := [.data, .pinned], laidTests := true, laidLooks := .later }
def EarlyRightUptoCardSaid : Prop := Claim7.holds Tryz.pinned (.plain (OpenSpec.upto earlyRightSpec)) earlyRightUptoCard

/-- THE SECOND FORM's CARD OF 'farandolelaw22.EarlyLeast'. -/
def earlyLeastUptoCard : Claim7 := { stood := { row := earlyLeastUptoRow, standIns := [], harness := (true, "d042a984f76830503bbb17fe02f7c3308d616e009adbcbec7eb6ef20c3db38ee"), looks := false }, kinds := [], alts := [], laidByText := true, laidKinds := [.data, .pinned], laidTests := true, laidLooks := .later }
def EarlyLeastUptoCardSaid : Prop := Claim7.holds Tryz.pinned (.plain (OpenSpec.upto earlyLeastSpec)) earlyLeastUptoCard
end Rows
end Go.Proofs.YtbfebdbdoclagaaGreatDoor
