/-
  DERIVED. GIVEN WITH THE SEED: THE CARDS: each row of YtpdfolkoejbbgaaDoorRows.lean that lists a variable, with what it lists TIED to the program's text (the seventh form; the later family's looks); each row that meets fmt, with fmt's text TOLD by the authors' own Lean function (tested against real Go, not proved from fmt's source: count such statements apart). THE CARD IS WHAT COUNTS. Prove the row's statement (the work); the ties are given (YtpdfolkoejbbgaaDoorTie.lean); close each card by the builder's one call (the guide's Derived/Test/ToyasCard.lean, 'card_holds'). Laid BY PROGRAM, IN A SANDBOX (cutbox-door.mjs). By AI agents, Wed Nov 11 2026. No macro, syntax, notation, axiom, sorry.
-/
import Derived.Test.YtpdfolkoejbbgaaDoorRows
import GoSem.ClaimSeven
namespace Go.Proofs.YtpdfolkoejbbgaaDoor
namespace Rows

/-- THE TIED CARD OF 'farandolelaw31.VersionsGood'. -/
def versionsGoodCard : Claim7 := { stood := { row := versionsGoodRow, standIns := [], harness := (true, "2755a9abbe7befa53c094833516965d76b67b537c9f1e3e2847478774838c55e"), looks := false }, kinds := [], alts := [], laidByText := true, laidKinds := [.data, .pinned], laidTests := true, laidLooks := .later }
def VersionsGoodCardSaid : Prop := Claim7.holds Tryd.pinned (.plain (OpenSpec.ofChange versionsGoodSpec)) versionsGoodCard

/-- THE TIED CARD OF 'farandolelaw31.VersionsChain'. -/
def versionsChainCard : Claim7 := { stood := { row := versionsChainRow, standIns := [], harness := (true, "2755a9abbe7befa53c094833516965d76b67b537c9f1e3e2847478774838c55e"), looks := false }, kinds := [], alts := [], laidByText := true, laidKinds := [.data, .pinned], laidTests := true, laidLooks := .later }
def VersionsChainCardSaid : Prop := Claim7.holds Tryd.pinned (.plain (OpenSpec.ofChange versionsChainSpec)) versionsChainCard

/-- THE SECOND FORM's CARD OF 'farandolelaw31.VersionsGood'. -/
def versionsGoodUptoCard : Claim7 := { stood := { row := versionsGoodUptoRow, standIns := [], harness := (true, "2755a9abbe7befa53c094833516965d76b67b537c9f1e3e2847478774838c55e"), looks := false }, kinds := [], alts := [], laidByText := true, laidKinds := [.data, .pinned], laidTests := true, laidLooks := .later }
def VersionsGoodUptoCardSaid : Prop := Claim7.holds Tryd.pinned (.plain (OpenSpec.upto versionsGoodSpec)) versionsGoodUptoCard

/-- THE SECOND FORM's CARD OF 'farandolelaw31.VersionsChain'. -/
def versionsChainUptoCard : Claim7 := { stood := { row := versionsChainUptoRow, standIns := [], harness := (true, "2755a9abbe7befa53c094833516965d76b67b537c9f1e3e2847478774838c55e"), looks := false }, kinds := [], alts := [], laidByText := true, laidKinds := [.data, .pinned], laidTests := true, laidLooks := .later }
def VersionsChainUptoCardSaid : Prop := Claim7.holds Tryd.pinned (.plain (OpenSpec.upto versionsChainSpec)) versionsChainUptoCard
end Rows
end Go.Proofs.YtpdfolkoejbbgaaDoor
