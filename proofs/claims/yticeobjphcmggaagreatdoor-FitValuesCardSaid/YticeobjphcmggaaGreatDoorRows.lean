/-
  NARROWER THAN 'FOR EVERY INPUT', by the rows' own cells (each row's printed sentence says how): FitRun: laid · FitNext: laid · FitValues: laid · FitFound: laid · FitCut: laid · FitWords: laid.
  DERIVED. THE GIVEN ROWS OF THIS SEAT. 6 by the template 'for every input the law returns true; each argument reads behind the call as it read before'; 0 by the template 'total and deterministic' (their statements: YticeobjphcmggaaGreatDoorTotals.lean).
  GIVEN WITH THE SEED: the statements are not yours to turn. If you find one false, say at which input.
  Laid BY PROGRAM, IN A SANDBOX (cutbox-rows.mjs): the forced cells as the released guide's own fill.sh prints them over the translation 8454b33de0c70f4c… (all of the seat's roots in one cut). By AI agents, Wed Nov 11 2026. No macro, syntax, notation, axiom, sorry.
-/
import Derived.Test.YticeobjphcmggaaGreatDoorChecked
import GoSem.PinnedTables
import GoSem.Claim
import GoSem.ClaimJoined
import GoSem.ClaimMapViews
import Derived.JoinedTies
import Derived.KernelRfl
namespace Go.Proofs.YticeobjphcmggaaGreatDoor
/- THE CELL 'sum', in the pinned program and in every row, IS THE sha256 OF THE DUMP (.gsa) THAT YticeobjphcmggaaGreatDoorProg.lean LOADS. Nothing in Lean hashes anything: it is a label: what it is worth is what the hold of that sum in a sandbox is worth. -/
noncomputable def Tryz.pinned : Pinned := { name := "yticeobjphcmggaagreatdoor", sum := "8454b33de0c70f4c9720e5caa84a91d7e68f7544b0c42da8e920277a6ca652d9", checked := Tryz.checked }
namespace Rows
def none {H : Type} : Left H := { results := [], args := [] }

/- WHAT THE LISTED PACKAGE-LEVEL VARIABLES READ AS WHEN THE CALL BEGINS. Each datum BY PROGRAM (the guide's laid-datum.mjs) off the statement by which the dump's own 'gosem.cut.vars' lays the variable. In a bare row this is a premise. The card (YticeobjphcmggaaGreatDoorCards.lean) ties it to the program's text. -/
def laid_unicode_utf8_acceptRanges {H : Type} : DataW H := .agg [.agg [.lit (.int .u8 128), .lit (.int .u8 191)], .agg [.lit (.int .u8 160), .lit (.int .u8 191)], .agg [.lit (.int .u8 128), .lit (.int .u8 159)], .agg [.lit (.int .u8 144), .lit (.int .u8 191)], .agg [.lit (.int .u8 128), .lit (.int .u8 143)], .agg [.lit (.int .u8 0), .lit (.int .u8 0)], .agg [.lit (.int .u8 0), .lit (.int .u8 0)], .agg [.lit (.int .u8 0), .lit (.int .u8 0)], .agg [.lit (.int .u8 0), .lit (.int .u8 0)], .agg [.lit (.int .u8 0), .lit (.int .u8 0)], .agg [.lit (.int .u8 0), .lit (.int .u8 0)], .agg [.lit (.int .u8 0), .lit (.int .u8 0)], .agg [.lit (.int .u8 0), .lit (.int .u8 0)], .agg [.lit (.int .u8 0), .lit (.int .u8 0)], .agg [.lit (.int .u8 0), .lit (.int .u8 0)], .agg [.lit (.int .u8 0), .lit (.int .u8 0)]]
/-- One of Go's own tables, pinned by name: the form's constant. -/
def laid_unicode_utf8_first : DataW Unit := Go.Pinned.utf8First

/-- 'farandolelaw20.FitRun': WHATEVER THE INPUT: true; the input reads as it did. -/
def fitRunSpec : ChangeSpec := { name := "fitRun", fn := fun _ => fun
  | [d1, d2] => { results := [.lit (.bool true)], args := [d1, d2] }
  | _ => none }
def fitRunRow : OpenClaim := { program := "yticeobjphcmggaagreatdoor", sum := "8454b33de0c70f4c9720e5caa84a91d7e68f7544b0c42da8e920277a6ca652d9", func := "farandole/farandolelaw20.FitRun", spec := "fitRun", inPlace := ["internal/bytealg.CountString", "internal/bytealg.IndexByteString", "internal/bytealg.IndexString"], unfollowed := true, recurses := true, named := ["unicode/utf8.first", "unicode/utf8.acceptRanges", "internal/bytealg.MaxLen"], plainKeys := false, apart := false, laid := [("unicode/utf8.acceptRanges", laid_unicode_utf8_acceptRanges), ("unicode/utf8.first", laid_unicode_utf8_first)] }
def FitRunSaid : Prop := fitRunRow.holds Tryz.pinned (OpenSpec.ofChange fitRunSpec)

/-- ITS FALSE NEIGHBOUR: 'it returns false'. Refute it at one input. -/
def fitRunWrong : ChangeSpec := { name := "fitRun", fn := fun _ => fun
  | [d1, d2] => { results := [.lit (.bool false)], args := [d1, d2] }
  | _ => none }
def FitRunWrongFalsely : Prop := fitRunRow.holds Tryz.pinned (OpenSpec.ofChange fitRunWrong)

/-- 'farandolelaw20.FitNext': WHATEVER THE INPUT: true; the input reads as it did. -/
def fitNextSpec : ChangeSpec := { name := "fitNext", fn := fun _ => fun
  | [d1, d2, d3] => { results := [.lit (.bool true)], args := [d1, d2, d3] }
  | _ => none }
def fitNextRow : OpenClaim := { program := "yticeobjphcmggaagreatdoor", sum := "8454b33de0c70f4c9720e5caa84a91d7e68f7544b0c42da8e920277a6ca652d9", func := "farandole/farandolelaw20.FitNext", spec := "fitNext", inPlace := ["internal/bytealg.CountString", "internal/bytealg.IndexByteString", "internal/bytealg.IndexString"], unfollowed := true, recurses := true, named := ["unicode/utf8.first", "unicode/utf8.acceptRanges", "internal/bytealg.MaxLen"], plainKeys := false, apart := false, laid := [("unicode/utf8.acceptRanges", laid_unicode_utf8_acceptRanges), ("unicode/utf8.first", laid_unicode_utf8_first)] }
def FitNextSaid : Prop := fitNextRow.holds Tryz.pinned (OpenSpec.ofChange fitNextSpec)

/-- ITS FALSE NEIGHBOUR: 'it returns false'. Refute it at one input. -/
def fitNextWrong : ChangeSpec := { name := "fitNext", fn := fun _ => fun
  | [d1, d2, d3] => { results := [.lit (.bool false)], args := [d1, d2, d3] }
  | _ => none }
def FitNextWrongFalsely : Prop := fitNextRow.holds Tryz.pinned (OpenSpec.ofChange fitNextWrong)

/-- 'farandolelaw20.FitValues': WHATEVER THE INPUT: true; the input reads as it did. -/
def fitValuesSpec : ChangeSpec := { name := "fitValues", fn := fun _ => fun
  | [d1, d2] => { results := [.lit (.bool true)], args := [d1, d2] }
  | _ => none }
def fitValuesRow : OpenClaim := { program := "yticeobjphcmggaagreatdoor", sum := "8454b33de0c70f4c9720e5caa84a91d7e68f7544b0c42da8e920277a6ca652d9", func := "farandole/farandolelaw20.FitValues", spec := "fitValues", inPlace := ["internal/bytealg.CountString", "internal/bytealg.IndexByteString", "internal/bytealg.IndexString"], unfollowed := true, recurses := true, named := ["unicode/utf8.first", "unicode/utf8.acceptRanges", "internal/bytealg.MaxLen"], plainKeys := false, apart := false, laid := [("unicode/utf8.acceptRanges", laid_unicode_utf8_acceptRanges), ("unicode/utf8.first", laid_unicode_utf8_first)] }
def FitValuesSaid : Prop := fitValuesRow.holds Tryz.pinned (OpenSpec.ofChange fitValuesSpec)

/-- ITS FALSE NEIGHBOUR: 'it returns false'. Refute it at one input. -/
def fitValuesWrong : ChangeSpec := { name := "fitValues", fn := fun _ => fun
  | [d1, d2] => { results := [.lit (.bool false)], args := [d1, d2] }
  | _ => none }
def FitValuesWrongFalsely : Prop := fitValuesRow.holds Tryz.pinned (OpenSpec.ofChange fitValuesWrong)

/-- 'farandolelaw20.FitFound': WHATEVER THE INPUT: true; the input reads as it did. -/
def fitFoundSpec : ChangeSpec := { name := "fitFound", fn := fun _ => fun
  | [d1, d2] => { results := [.lit (.bool true)], args := [d1, d2] }
  | _ => none }
def fitFoundRow : OpenClaim := { program := "yticeobjphcmggaagreatdoor", sum := "8454b33de0c70f4c9720e5caa84a91d7e68f7544b0c42da8e920277a6ca652d9", func := "farandole/farandolelaw20.FitFound", spec := "fitFound", inPlace := ["internal/bytealg.CountString", "internal/bytealg.IndexByteString", "internal/bytealg.IndexString"], unfollowed := true, recurses := true, named := ["unicode/utf8.first", "unicode/utf8.acceptRanges", "internal/bytealg.MaxLen"], plainKeys := false, apart := false, laid := [("unicode/utf8.acceptRanges", laid_unicode_utf8_acceptRanges), ("unicode/utf8.first", laid_unicode_utf8_first)] }
def FitFoundSaid : Prop := fitFoundRow.holds Tryz.pinned (OpenSpec.ofChange fitFoundSpec)

/-- ITS FALSE NEIGHBOUR: 'it returns false'. Refute it at one input. -/
def fitFoundWrong : ChangeSpec := { name := "fitFound", fn := fun _ => fun
  | [d1, d2] => { results := [.lit (.bool false)], args := [d1, d2] }
  | _ => none }
def FitFoundWrongFalsely : Prop := fitFoundRow.holds Tryz.pinned (OpenSpec.ofChange fitFoundWrong)

/-- 'farandolelaw20.FitCut': WHATEVER THE INPUT: true; the input reads as it did. -/
def fitCutSpec : ChangeSpec := { name := "fitCut", fn := fun _ => fun
  | [d1, d2, d3] => { results := [.lit (.bool true)], args := [d1, d2, d3] }
  | _ => none }
def fitCutRow : OpenClaim := { program := "yticeobjphcmggaagreatdoor", sum := "8454b33de0c70f4c9720e5caa84a91d7e68f7544b0c42da8e920277a6ca652d9", func := "farandole/farandolelaw20.FitCut", spec := "fitCut", inPlace := ["internal/bytealg.CountString", "internal/bytealg.IndexByteString", "internal/bytealg.IndexString"], unfollowed := true, recurses := true, named := ["unicode/utf8.first", "unicode/utf8.acceptRanges", "internal/bytealg.MaxLen"], plainKeys := false, apart := false, laid := [("unicode/utf8.acceptRanges", laid_unicode_utf8_acceptRanges), ("unicode/utf8.first", laid_unicode_utf8_first)] }
def FitCutSaid : Prop := fitCutRow.holds Tryz.pinned (OpenSpec.ofChange fitCutSpec)

/-- ITS FALSE NEIGHBOUR: 'it returns false'. Refute it at one input. -/
def fitCutWrong : ChangeSpec := { name := "fitCut", fn := fun _ => fun
  | [d1, d2, d3] => { results := [.lit (.bool false)], args := [d1, d2, d3] }
  | _ => none }
def FitCutWrongFalsely : Prop := fitCutRow.holds Tryz.pinned (OpenSpec.ofChange fitCutWrong)

/-- 'farandolelaw20.FitWords': WHATEVER THE INPUT: true; the input reads as it did. -/
def fitWordsSpec : ChangeSpec := { name := "fitWords", fn := fun _ => fun
  | [d1, d2, d3] => { results := [.lit (.bool true)], args := [d1, d2, d3] }
  | _ => none }
def fitWordsRow : OpenClaim := { program := "yticeobjphcmggaagreatdoor", sum := "8454b33de0c70f4c9720e5caa84a91d7e68f7544b0c42da8e920277a6ca652d9", func := "farandole/farandolelaw20.FitWords", spec := "fitWords", inPlace := ["internal/bytealg.CountString", "internal/bytealg.IndexByteString", "internal/bytealg.IndexString"], unfollowed := true, recurses := true, named := ["unicode/utf8.first", "unicode/utf8.acceptRanges", "internal/bytealg.MaxLen"], plainKeys := false, apart := false, laid := [("unicode/utf8.acceptRanges", laid_unicode_utf8_acceptRanges), ("unicode/utf8.first", laid_unicode_utf8_first)] }
def FitWordsSaid : Prop := fitWordsRow.holds Tryz.pinned (OpenSpec.ofChange fitWordsSpec)

/-- ITS FALSE NEIGHBOUR: 'it returns false'. Refute it at one input. -/
def fitWordsWrong : ChangeSpec := { name := "fitWords", fn := fun _ => fun
  | [d1, d2, d3] => { results := [.lit (.bool false)], args := [d1, d2, d3] }
  | _ => none }
def FitWordsWrongFalsely : Prop := fitWordsRow.holds Tryz.pinned (OpenSpec.ofChange fitWordsWrong)

/- THE SECOND FORM. 'bulk': how many values and letters a reading holds, each counted each time it is reached (what is shared counts as often as it is met; a slice's spare places count too). A statement '..UptoSaid' is the law's where the arguments, and the package variables that the reading takes, are together of bulk at most 1048576: NARROWER than '..Said'. Prove '..Said' where nothing that the law and all that it calls make is longer than what came in: it says more and counts as full. Else prove '..UptoSaid'. A law counts once. -/
mutual
def uptoBulk {H : Type} : DataW H → Nat
  | .lit (.string bytes) => bytes.length + 1
  | .lit _ => 1
  | .nil => 1
  | .ptr d => uptoBulk d + 1
  | .slice elems spare => uptoBulkAll elems + uptoBulkAll spare + 1
  | .agg parts => uptoBulkAll parts + 1
  | .iface _ d => uptoBulk d + 1
  | .map entries => uptoBulkEntries entries + 1
  | .held _ => 1
def uptoBulkAll {H : Type} : List (DataW H) → Nat
  | [] => 0
  | d :: r => uptoBulk d + uptoBulkAll r
def uptoBulkEntries {H : Type} : List (Lit × DataW H) → Nat
  | [] => 0
  | x :: r => uptoBulkEntry x + uptoBulkEntries r
def uptoBulkEntry {H : Type} : Lit × DataW H → Nat
  | (.string bytes, d) => bytes.length + uptoBulk d + 1
  | (_, d) => uptoBulk d + 1
 end
def uptoSmall : (H : Type) → List (DataW H) → Bool := fun _ ds => decide (uptoBulkAll ds ≤ 1048576)
def OpenSpec.upto (s : _root_.Go.ChangeSpec) : _root_.Go.OpenSpec := { _root_.Go.OpenSpec.ofChange s with cond := some uptoSmall }

/-- 'farandolelaw20.FitRun', WHERE WHAT IT READS IS OF BULK AT MOST 1048576: true; the input reads as it did. -/
def fitRunUptoRow : OpenClaim := { program := "yticeobjphcmggaagreatdoor", sum := "8454b33de0c70f4c9720e5caa84a91d7e68f7544b0c42da8e920277a6ca652d9", func := "farandole/farandolelaw20.FitRun", spec := "fitRun", inPlace := ["internal/bytealg.CountString", "internal/bytealg.IndexByteString", "internal/bytealg.IndexString"], unfollowed := true, recurses := true, named := ["unicode/utf8.first", "unicode/utf8.acceptRanges", "internal/bytealg.MaxLen"], plainKeys := false, apart := false, laid := [("unicode/utf8.acceptRanges", laid_unicode_utf8_acceptRanges), ("unicode/utf8.first", laid_unicode_utf8_first)], narrowed := true }
def FitRunUptoSaid : Prop := fitRunUptoRow.holds Tryz.pinned (OpenSpec.upto fitRunSpec)

/-- 'farandolelaw20.FitNext', WHERE WHAT IT READS IS OF BULK AT MOST 1048576: true; the input reads as it did. -/
def fitNextUptoRow : OpenClaim := { program := "yticeobjphcmggaagreatdoor", sum := "8454b33de0c70f4c9720e5caa84a91d7e68f7544b0c42da8e920277a6ca652d9", func := "farandole/farandolelaw20.FitNext", spec := "fitNext", inPlace := ["internal/bytealg.CountString", "internal/bytealg.IndexByteString", "internal/bytealg.IndexString"], unfollowed := true, recurses := true, named := ["unicode/utf8.first", "unicode/utf8.acceptRanges", "internal/bytealg.MaxLen"], plainKeys := false, apart := false, laid := [("unicode/utf8.acceptRanges", laid_unicode_utf8_acceptRanges), ("unicode/utf8.first", laid_unicode_utf8_first)], narrowed := true }
def FitNextUptoSaid : Prop := fitNextUptoRow.holds Tryz.pinned (OpenSpec.upto fitNextSpec)

/-- 'farandolelaw20.FitValues', WHERE WHAT IT READS IS OF BULK AT MOST 1048576: true; the input reads as it did. -/
def fitValuesUptoRow : OpenClaim := { program := "yticeobjphcmggaagreatdoor", sum := "8454b33de0c70f4c9720e5caa84a91d7e68f7544b0c42da8e920277a6ca652d9", func := "farandole/farandolelaw20.FitValues", spec := "fitValues", inPlace := ["internal/bytealg.CountString", "internal/bytealg.IndexByteString", "internal/bytealg.IndexString"], unfollowed := true, recurses := true, named := ["unicode/utf8.first", "unicode/utf8.acceptRanges", "internal/bytealg.MaxLen"], plainKeys := false, apart := false, laid := [("unicode/utf8.acceptRanges", laid_unicode_utf8_acceptRanges), ("unicode/utf8.first", laid_unicode_utf8_first)], narrowed := true }
def FitValuesUptoSaid : Prop := fitValuesUptoRow.holds Tryz.pinned (OpenSpec.upto fitValuesSpec)

/-- 'farandolelaw20.FitFound', WHERE WHAT IT READS IS OF BULK AT MOST 1048576: true; the input reads as it did. -/
def fitFoundUptoRow : OpenClaim := { program := "yticeobjphcmggaagreatdoor", sum := "8454b33de0c70f4c9720e5caa84a91d7e68f7544b0c42da8e920277a6ca652d9", func := "farandole/farandolelaw20.FitFound", spec := "fitFound", inPlace := ["internal/bytealg.CountString", "internal/bytealg.IndexByteString", "internal/bytealg.IndexString"], unfollowed := true, recurses := true, named := ["unicode/utf8.first", "unicode/utf8.acceptRanges", "internal/bytealg.MaxLen"], plainKeys := false, apart := false, laid := [("unicode/utf8.acceptRanges", laid_unicode_utf8_acceptRanges), ("unicode/utf8.first", laid_unicode_utf8_first)], narrowed := true }
def FitFoundUptoSaid : Prop := fitFoundUptoRow.holds Tryz.pinned (OpenSpec.upto fitFoundSpec)

/-- 'farandolelaw20.FitCut', WHERE WHAT IT READS IS OF BULK AT MOST 1048576: true; the input reads as it did. -/
def fitCutUptoRow : OpenClaim := { program := "yticeobjphcmggaagreatdoor", sum := "8454b33de0c70f4c9720e5caa84a91d7e68f7544b0c42da8e920277a6ca652d9", func := "farandole/farandolelaw20.FitCut", spec := "fitCut", inPlace := ["internal/bytealg.CountString", "internal/bytealg.IndexByteString", "internal/bytealg.IndexString"], unfollowed := true, recurses := true, named := ["unicode/utf8.first", "unicode/utf8.acceptRanges", "internal/bytealg.MaxLen"], plainKeys := false, apart := false, laid := [("unicode/utf8.acceptRanges", laid_unicode_utf8_acceptRanges), ("unicode/utf8.first", laid_unicode_utf8_first)], narrowed := true }
def FitCutUptoSaid : Prop := fitCutUptoRow.holds Tryz.pinned (OpenSpec.upto fitCutSpec)

/-- 'farandolelaw20.FitWords', WHERE WHAT IT READS IS OF BULK AT MOST 1048576: true; the input reads as it did. -/
def fitWordsUptoRow : OpenClaim := { program := "yticeobjphcmggaagreatdoor", sum := "8454b33de0c70f4c9720e5caa84a91d7e68f7544b0c42da8e920277a6ca652d9", func := "farandole/farandolelaw20.FitWords", spec := "fitWords", inPlace := ["internal/bytealg.CountString", "internal/bytealg.IndexByteString", "internal/bytealg.IndexString"], unfollowed := true, recurses := true, named := ["unicode/utf8.first", "unicode/utf8.acceptRanges", "internal/bytealg.MaxLen"], plainKeys := false, apart := false, laid := [("unicode/utf8.acceptRanges", laid_unicode_utf8_acceptRanges), ("unicode/utf8.first", laid_unicode_utf8_first)], narrowed := true }
def FitWordsUptoSaid : Prop := fitWordsUptoRow.holds Tryz.pinned (OpenSpec.upto fitWordsSpec)

end Rows
end Go.Proofs.YticeobjphcmggaaGreatDoor
