/-
  DERIVED. GIVEN WITH THE SEED: THE CARDS: each row of YticeobjphcmggaaDoorRows.lean that lists a variable, with what it lists TIED to the program's text (the seventh form; the later family's looks); each row that meets fmt, with fmt's text TOLD by the authors' own Lean function (tested against real Go, not proved from fmt's source: count such statements apart). THE CARD IS WHAT COUNTS. Prove the row's statement (the work); the ties are given (YticeobjphcmggaaDoorTie.lean); close each card by the builder's one call (the guide's Derived/Test/ToyasCard.lean, 'card_holds'). Laid BY PROGRAM, IN A SANDBOX (cutbox-door.mjs). By AI agents, Wed Nov 11 2026. No macro, syntax, notation, axiom, sorry.
-/
import Derived.Test.YticeobjphcmggaaDoorRows
import GoSem.ClaimSeven
namespace Go.Proofs.YticeobjphcmggaaDoor
namespace Rows

/-- THE TIED CARD OF 'farandolelaw20.FitBeginnings'. -/
def fitBeginningsCard : Claim7 := { stood := { row := fitBeginningsRow, standIns := [], harness := (true, "6dfee041857f276e04820e1e1b16013f79ae95022c306e998cefac6bede6aee0"), looks := false }, kinds := [], alts := [], laidByText := true, laidKinds := [.data, .pinned], laidTests := true, laidLooks := .later }
def FitBeginningsCardSaid : Prop := Claim7.holds Tryd.pinned (.plain (OpenSpec.ofChange fitBeginningsSpec)) fitBeginningsCard

/-- THE TIED CARD OF 'farandolelaw20.FitNextOnly'. -/
def fitNextOnlyCard : Claim7 := { stood := { row := fitNextOnlyRow, standIns := [], harness := (true, "6dfee041857f276e04820e1e1b16013f79ae95022c306e998cefac6bede6aee0"), looks := false }, kinds := [], alts := [], laidByText := true, laidKinds := [.data, .pinned], laidTests := true, laidLooks := .later }
def FitNextOnlyCardSaid : Prop := Claim7.holds Tryd.pinned (.plain (OpenSpec.ofChange fitNextOnlySpec)) fitNextOnlyCard

/-- THE SECOND FORM's CARD OF 'farandolelaw20.FitBeginnings'. -/
def fitBeginningsUptoCard : Claim7 := { stood := { row := fitBeginningsUptoRow, standIns := [], harness := (true, "6dfee041857f276e04820e1e1b16013f79ae95022c306e998cefac6bede6aee0"), looks := false }, kinds := [], alts := [], laidByText := true, laidKinds := [.data, .pinned], laidTests := true, laidLooks := .later }
def FitBeginningsUptoCardSaid : Prop := Claim7.holds Tryd.pinned (.plain (OpenSpec.upto fitBeginningsSpec)) fitBeginningsUptoCard

/-- THE SECOND FORM's CARD OF 'farandolelaw20.FitNextOnly'. -/
def fitNextOnlyUptoCard : Claim7 := { stood := { row := fitNextOnlyUptoRow, standIns := [], harness := (true, "6dfee041857f276e04820e1e1b16013f79ae95022c306e998cefac6bede6aee0"), looks := false }, kinds := [], alts := [], laidByText := true, laidKinds := [.data, .pinned], laidTests := true, laidLooks := .later }
def FitNextOnlyUptoCardSaid : Prop := Claim7.holds Tryd.pinned (.plain (OpenSpec.upto fitNextOnlySpec)) fitNextOnlyUptoCard
end Rows
end Go.Proofs.YticeobjphcmggaaDoor
