/-
  NARROWER THAN 'FOR EVERY INPUT', by the rows' own cells (each row's printed sentence says how): EarlyFinds: laid · EarlyTwo: laid · EarlyBlocks: laid · EarlyPaths: laid · EarlyRight: laid · EarlyLeast: laid.
  DERIVED. THE GIVEN ROWS OF THIS SEAT. 6 by the template 'for every input the law returns true; each argument reads behind the call as it read before'; 0 by the template 'total and deterministic' (their statements: YtbfebdbdoclagaaGreatDoorTotals.lean).
  GIVEN WITH THE SEED: the statements are not yours to turn. If you find one false, say at which input.
  Laid BY PROGRAM, IN A SANDBOX (cutbox-rows.mjs): the forced cells as the released guide's own fill.sh prints them over the translation 47f2cd88c4eabfb2… (all of the seat's roots in one cut). By AI agents, Wed Nov 11 2026. No macro, syntax, notation, axiom, sorry.
-/
import Derived.Test.YtbfebdbdoclagaaGreatDoorChecked
import GoSem.PinnedTables
import GoSem.Claim
import GoSem.ClaimJoined
import GoSem.ClaimMapViews
import Derived.JoinedTies
import Derived.KernelRfl
namespace Go.Proofs.YtbfebdbdoclagaaGreatDoor
/- THE CELL 'sum', in the pinned program and in every row, IS THE sha256 OF THE DUMP (.gsa) THAT YtbfebdbdoclagaaGreatDoorProg.lean LOADS. Nothing in Lean hashes anything: it is a label: what it is worth is what the hold of that sum in a sandbox is worth. -/
noncomputable def Tryz.pinned : Pinned := { name := "ytbfebdbdoclagaagreatdoor", sum := "47f2cd88c4eabfb21eff607eaead4b4e0f6c3050ed98544d388f5f849ef03d29", checked := Tryz.checked }
namespace Rows
def none {H : Type} : Left H := { results := [], args := [] }

/- WHAT THE LISTED PACKAGE-LEVEL VARIABLES READ AS WHEN THE CALL BEGINS. Each datum BY PROGRAM (the guide's laid-datum.mjs) off the statement by which the dump's own 'gosem.cut.vars' lays the variable. In a bare row this is a premise. The card (YtbfebdbdoclagaaGreatDoorCards.lean) ties it to the program's text. -/
def laid_unicode_utf8_acceptRanges {H : Type} : DataW H := .agg [.agg [.lit (.int .u8 128), .lit (.int .u8 191)], .agg [.lit (.int .u8 160), .lit (.int .u8 191)], .agg [.lit (.int .u8 128), .lit (.int .u8 159)], .agg [.lit (.int .u8 144), .lit (.int .u8 191)], .agg [.lit (.int .u8 128), .lit (.int .u8 143)], .agg [.lit (.int .u8 0), .lit (.int .u8 0)], .agg [.lit (.int .u8 0), .lit (.int .u8 0)], .agg [.lit (.int .u8 0), .lit (.int .u8 0)], .agg [.lit (.int .u8 0), .lit (.int .u8 0)], .agg [.lit (.int .u8 0), .lit (.int .u8 0)], .agg [.lit (.int .u8 0), .lit (.int .u8 0)], .agg [.lit (.int .u8 0), .lit (.int .u8 0)], .agg [.lit (.int .u8 0), .lit (.int .u8 0)], .agg [.lit (.int .u8 0), .lit (.int .u8 0)], .agg [.lit (.int .u8 0), .lit (.int .u8 0)], .agg [.lit (.int .u8 0), .lit (.int .u8 0)]]
/-- One of Go's own tables, pinned by name: the form's constant. -/
def laid_unicode_utf8_first : DataW Unit := Go.Pinned.utf8First

/-- 'farandolelaw22.EarlyFinds': WHATEVER THE INPUT: true; the input reads as it did. -/
def earlyFindsSpec : ChangeSpec := { name := "earlyFinds", fn := fun _ => fun
  | [d1, d2] => { results := [.lit (.bool true)], args := [d1, d2] }
  | _ => none }
def earlyFindsRow : OpenClaim := { program := "ytbfebdbdoclagaagreatdoor", sum := "47f2cd88c4eabfb21eff607eaead4b4e0f6c3050ed98544d388f5f849ef03d29", func := "farandole/farandolelaw22.EarlyFinds", spec := "earlyFinds", inPlace := ["internal/bytealg.CountString", "internal/bytealg.IndexByteString", "internal/bytealg.IndexString"], unfollowed := true, recurses := true, named := ["unicode/utf8.first", "unicode/utf8.acceptRanges", "internal/bytealg.MaxLen"], plainKeys := false, apart := false, laid := [("unicode/utf8.acceptRanges", laid_unicode_utf8_acceptRanges), ("unicode/utf8.first", laid_unicode_utf8_first)] }
def EarlyFindsSaid : Prop := earlyFindsRow.holds Tryz.pinned (OpenSpec.ofChange earlyFindsSpec)

/-- ITS FALSE NEIGHBOUR: 'it returns false'. Refute it at one input. -/
def earlyFindsWrong : ChangeSpec := { name := "earlyFinds", fn := fun _ => fun
  | [d1, d2] => { results := [.lit (.bool false)], args := [d1, d2] }
  | _ => none }
def EarlyFindsWrongFalsely : Prop := earlyFindsRow.holds Tryz.pinned (OpenSpec.ofChange earlyFindsWrong)

/-- 'farandolelaw22.EarlyTwo': WHATEVER THE INPUT: true; the input reads as it did. -/
def earlyTwoSpec : ChangeSpec := { name := "earlyTwo", fn := fun _ => fun
  | [d1, d2] => { results := [.lit (.bool true)], args := [d1, d2] }
  | _ => none }
def earlyTwoRow : OpenClaim := { program := "ytbfebdbdoclagaagreatdoor", sum := "47f2cd88c4eabfb21eff607eaead4b4e0f6c3050ed98544d388f5f849ef03d29", func := "farandole/farandolelaw22.EarlyTwo", spec := "earlyTwo", inPlace := ["internal/bytealg.CountString", "internal/bytealg.IndexByteString", "internal/bytealg.IndexString"], unfollowed := true, recurses := true, named := ["unicode/utf8.first", "unicode/utf8.acceptRanges", "internal/bytealg.MaxLen"], plainKeys := false, apart := false, laid := [("unicode/utf8.acceptRanges", laid_unicode_utf8_acceptRanges), ("unicode/utf8.first", laid_unicode_utf8_first)] }
def EarlyTwoSaid : Prop := earlyTwoRow.holds Tryz.pinned (OpenSpec.ofChange earlyTwoSpec)

/-- ITS FALSE NEIGHBOUR: 'it returns false'. Refute it at one input. -/
def earlyTwoWrong : ChangeSpec := { name := "earlyTwo", fn := fun _ => fun
  | [d1, d2] => { results := [.lit (.bool false)], args := [d1, d2] }
  | _ => none }
def EarlyTwoWrongFalsely : Prop := earlyTwoRow.holds Tryz.pinned (OpenSpec.ofChange earlyTwoWrong)

/-- 'farandolelaw22.EarlyBlocks': WHATEVER THE INPUT: true; the input reads as it did. -/
def earlyBlocksSpec : ChangeSpec := { name := "earlyBlocks", fn := fun _ => fun
  | [d1, d2] => { results := [.lit (.bool true)], args := [d1, d2] }
  | _ => none }
def earlyBlocksRow : OpenClaim := { program := "ytbfebdbdoclagaagreatdoor", sum := "47f2cd88c4eabfb21eff607eaead4b4e0f6c3050ed98544d388f5f849ef03d29", func := "farandole/farandolelaw22.EarlyBlocks", spec := "earlyBlocks", inPlace := ["internal/bytealg.CountString", "internal/bytealg.IndexByteString", "internal/bytealg.IndexString"], unfollowed := true, recurses := true, named := ["unicode/utf8.first", "unicode/utf8.acceptRanges", "internal/bytealg.MaxLen"], plainKeys := false, apart := false, laid := [("unicode/utf8.acceptRanges", laid_unicode_utf8_acceptRanges), ("unicode/utf8.first", laid_unicode_utf8_first)] }
def EarlyBlocksSaid : Prop := earlyBlocksRow.holds Tryz.pinned (OpenSpec.ofChange earlyBlocksSpec)

/-- ITS FALSE NEIGHBOUR: 'it returns false'. Refute it at one input. -/
def earlyBlocksWrong : ChangeSpec := { name := "earlyBlocks", fn := fun _ => fun
  | [d1, d2] => { results := [.lit (.bool false)], args := [d1, d2] }
  | _ => none }
def EarlyBlocksWrongFalsely : Prop := earlyBlocksRow.holds Tryz.pinned (OpenSpec.ofChange earlyBlocksWrong)

/-- 'farandolelaw22.EarlyPaths': WHATEVER THE INPUT: true; the input reads as it did. -/
def earlyPathsSpec : ChangeSpec := { name := "earlyPaths", fn := fun _ => fun
  | [d1, d2, d3] => { results := [.lit (.bool true)], args := [d1, d2, d3] }
  | _ => none }
def earlyPathsRow : OpenClaim := { program := "ytbfebdbdoclagaagreatdoor", sum := "47f2cd88c4eabfb21eff607eaead4b4e0f6c3050ed98544d388f5f849ef03d29", func := "farandole/farandolelaw22.EarlyPaths", spec := "earlyPaths", inPlace := ["internal/bytealg.CountString", "internal/bytealg.IndexByteString", "internal/bytealg.IndexString"], unfollowed := true, recurses := true, named := ["unicode/utf8.first", "unicode/utf8.acceptRanges", "internal/bytealg.MaxLen"], plainKeys := false, apart := false, laid := [("unicode/utf8.acceptRanges", laid_unicode_utf8_acceptRanges), ("unicode/utf8.first", laid_unicode_utf8_first)] }
def EarlyPathsSaid : Prop := earlyPathsRow.holds Tryz.pinned (OpenSpec.ofChange earlyPathsSpec)

/-- ITS FALSE NEIGHBOUR: 'it returns false'. Refute it at one input. -/
def earlyPathsWrong : ChangeSpec := { name := "earlyPaths", fn := fun _ => fun
  | [d1, d2, d3] => { results := [.lit (.bool false)], args := [d1, d2, d3] }
  | _ => none }
def EarlyPathsWrongFalsely : Prop := earlyPathsRow.holds Tryz.pinned (OpenSpec.ofChange earlyPathsWrong)

/-- 'farandolelaw22.EarlyRight': WHATEVER THE INPUT: true; the input reads as it did. -/
def earlyRightSpec : ChangeSpec := { name := "earlyRight", fn := fun _ => fun
  | [d1, d2, d3] => { results := [.lit (.bool true)], args := [d1, d2, d3] }
  | _ => none }
def earlyRightRow : OpenClaim := { program := "ytbfebdbdoclagaagreatdoor", sum := "47f2cd88c4eabfb21eff607eaead4b4e0f6c3050ed98544d388f5f849ef03d29", func := "farandole/farandolelaw22.EarlyRight", spec := "earlyRight", inPlace := ["internal/bytealg.CountString", "internal/bytealg.IndexByteString", "internal/bytealg.IndexString"], unfollowed := true, recurses := true, named := ["unicode/utf8.first", "unicode/utf8.acceptRanges", "internal/bytealg.MaxLen"], plainKeys := false, apart := false, laid := [("unicode/utf8.acceptRanges", laid_unicode_utf8_acceptRanges), ("unicode/utf8.first", laid_unicode_utf8_first)] }
def EarlyRightSaid : Prop := earlyRightRow.holds Tryz.pinned (OpenSpec.ofChange earlyRightSpec)

/-- ITS FALSE NEIGHBOUR: 'it returns false'. Refute it at one input. -/
def earlyRightWrong : ChangeSpec := { name := "earlyRight", fn := fun _ => fun
  | [d1, d2, d3] => { results := [.lit (.bool false)], args := [d1, d2, d3] }
  | _ => none }
def EarlyRightWrongFalsely : Prop := earlyRightRow.holds Tryz.pinned (OpenSpec.ofChange earlyRightWrong)

/-- 'farandolelaw22.EarlyLeast': WHATEVER THE INPUT: true; the input reads as it did. -/
def earlyLeastSpec : ChangeSpec := { name := "earlyLeast", fn := fun _ => fun
  | [d1, d2, d3] => { results := [.lit (.bool true)], args := [d1, d2, d3] }
  | _ => none }
def earlyLeastRow : OpenClaim := { program := "ytbfebdbdoclagaagreatdoor", sum := "47f2cd88c4eabfb21eff607eaead4b4e0f6c3050ed98544d388f5f849ef03d29", func := "farandole/farandolelaw22.EarlyLeast", spec := "earlyLeast", inPlace := ["internal/bytealg.CountString", "internal/bytealg.IndexByteString", "internal/bytealg.IndexString"], unfollowed := true, recurses := true, named := ["unicode/utf8.first", "unicode/utf8.acceptRanges", "internal/bytealg.MaxLen"], plainKeys := false, apart := false, laid := [("unicode/utf8.acceptRanges", laid_unicode_utf8_acceptRanges), ("unicode/utf8.first", laid_unicode_utf8_first)] }
def EarlyLeastSaid : Prop := earlyLeastRow.holds Tryz.pinned (OpenSpec.ofChange earlyLeastSpec)

/-- ITS FALSE NEIGHBOUR: 'it returns false'. Refute it at one input. -/
def earlyLeastWrong : ChangeSpec := { name := "earlyLeast", fn := fun _ => fun
  | [d1, d2, d3] => { results := [.lit (.bool false)], args := [d1, d2, d3] }
  | _ => none }
def EarlyLeastWrongFalsely : Prop := earlyLeastRow.holds Tryz.pinned (OpenSpec.ofChange earlyLeastWrong)

/- THE SECOND FORM. 'bulk': how many values and letters a reading holds, each counted each time it is reached (what is shared counts as often as it is met; a slice's spare places count too). A statement '..UptoSaid' is the law's where the arguments, and the package variables that the reading takes, are together of bulk at most 1048576: NARROWER than '..Said'. Prove '..Said' where nothing that the law and all that it calls make is longer than what came in: it says more and counts as full. Else prove '..UptoSaid'. A law counts once. -/
mutual
def uptoBulk {H : Type} : DataW H → Nat
  | .lit (.string bytes) => bytes.length + 1
  | .lit _ => 1
  | .nil => 1
  | .ptr d => uptoBulk d + 1
  | .slice elems spare => uptoBulkAll elems + uptoBulkAll spare + 1
  | .agg parts => uptoBulkAll parts + 1
  | .iface _ d => uptoBulk d + 1
  | .map entries => uptoBulkEntries entries + 1
  | .held _ => 1
def uptoBulkAll {H : Type} : List (DataW H) → Nat
  | [] => 0
  | d :: r => uptoBulk d + uptoBulkAll r
def uptoBulkEntries {H : Type} : List (Lit × DataW H) → Nat
  | [] => 0
  | x :: r => uptoBulkEntry x + uptoBulkEntries r
def uptoBulkEntry {H : Type} : Lit × DataW H → Nat
  | (.string bytes, d) => bytes.length + uptoBulk d + 1
  | (_, d) => uptoBulk d + 1
 end
def uptoSmall : (H : Type) → List (DataW H) → Bool := fun _ ds => decide (uptoBulkAll ds ≤ 1048576)
def OpenSpec.upto (s : _root_.Go.ChangeSpec) : _root_.Go.OpenSpec := { _root_.Go.OpenSpec.ofChange s with cond := some uptoSmall }

/-- 'farandolelaw22.EarlyFinds', WHERE WHAT IT READS IS OF BULK AT MOST 1048576: true; the input reads as it did. -/
def earlyFindsUptoRow : OpenClaim := { program := "ytbfebdbdoclagaagreatdoor", sum := "47f2cd88c4eabfb21eff607eaead4b4e0f6c3050ed98544d388f5f849ef03d29", func := "farandole/farandolelaw22.EarlyFinds", spec := "earlyFinds", inPlace := ["internal/bytealg.CountString", "internal/bytealg.IndexByteString", "internal/bytealg.IndexString"], unfollowed := true, recurses := true, named := ["unicode/utf8.first", "unicode/utf8.acceptRanges", "internal/bytealg.MaxLen"], plainKeys := false, apart := false, laid := [("unicode/utf8.acceptRanges", laid_unicode_utf8_acceptRanges), ("unicode/utf8.first", laid_unicode_utf8_first)], narrowed := true }
def EarlyFindsUptoSaid : Prop := earlyFindsUptoRow.holds Tryz.pinned (OpenSpec.upto earlyFindsSpec)

/-- 'farandolelaw22.EarlyTwo', WHERE WHAT IT READS IS OF BULK AT MOST 1048576: true; the input reads as it did. -/
def earlyTwoUptoRow : OpenClaim := { program := "ytbfebdbdoclagaagreatdoor", sum := "47f2cd88c4eabfb21eff607eaead4b4e0f6c3050ed98544d388f5f849ef03d29", func := "farandole/farandolelaw22.EarlyTwo", spec := "earlyTwo", inPlace := ["internal/bytealg.CountString", "internal/bytealg.IndexByteString", "internal/bytealg.IndexString"], unfollowed := true, recurses := true, named := ["unicode/utf8.first", "unicode/utf8.acceptRanges", "internal/bytealg.MaxLen"], plainKeys := false, apart := false, laid := [("unicode/utf8.acceptRanges", laid_unicode_utf8_acceptRanges), ("unicode/utf8.first", laid_unicode_utf8_first)], narrowed := true }
def EarlyTwoUptoSaid : Prop := earlyTwoUptoRow.holds Tryz.pinned (OpenSpec.upto earlyTwoSpec)

/-- 'farandolelaw22.EarlyBlocks', WHERE WHAT IT READS IS OF BULK AT MOST 1048576: true; the input reads as it did. -/
def earlyBlocksUptoRow : OpenClaim := { program := "ytbfebdbdoclagaagreatdoor", sum := "47f2cd88c4eabfb21eff607eaead4b4e0f6c3050ed98544d388f5f849ef03d29", func := "farandole/farandolelaw22.EarlyBlocks", spec := "earlyBlocks", inPlace := ["internal/bytealg.CountString", "internal/bytealg.IndexByteString", "internal/bytealg.IndexString"], unfollowed := true, recurses := true, named := ["unicode/utf8.first", "unicode/utf8.acceptRanges", "internal/bytealg.MaxLen"], plainKeys := false, apart := false, laid := [("unicode/utf8.acceptRanges", laid_unicode_utf8_acceptRanges), ("unicode/utf8.first", laid_unicode_utf8_first)], narrowed := true }
def EarlyBlocksUptoSaid : Prop := earlyBlocksUptoRow.holds Tryz.pinned (OpenSpec.upto earlyBlocksSpec)

/-- 'farandolelaw22.EarlyPaths', WHERE WHAT IT READS IS OF BULK AT MOST 1048576: true; the input reads as it did. -/
def earlyPathsUptoRow : OpenClaim := { program := "ytbfebdbdoclagaagreatdoor", sum := "47f2cd88c4eabfb21eff607eaead4b4e0f6c3050ed98544d388f5f849ef03d29", func := "farandole/farandolelaw22.EarlyPaths", spec := "earlyPaths", inPlace := ["internal/bytealg.CountString", "internal/bytealg.IndexByteString", "internal/bytealg.IndexString"], unfollowed := true, recurses := true, named := ["unicode/utf8.first", "unicode/utf8.acceptRanges", "internal/bytealg.MaxLen"], plainKeys := false, apart := false, laid := [("unicode/utf8.acceptRanges", laid_unicode_utf8_acceptRanges), ("unicode/utf8.first", laid_unicode_utf8_first)], narrowed := true }
def EarlyPathsUptoSaid : Prop := earlyPathsUptoRow.holds Tryz.pinned (OpenSpec.upto earlyPathsSpec)

/-- 'farandolelaw22.EarlyRight', WHERE WHAT IT READS IS OF BULK AT MOST 1048576: true; the input reads as it did. -/
def earlyRightUptoRow : OpenClaim := { program := "ytbfebdbdoclagaagreatdoor", sum := "47f2cd88c4eabfb21eff607eaead4b4e0f6c3050ed98544d388f5f849ef03d29", func := "farandole/farandolelaw22.EarlyRight", spec := "earlyRight", inPlace := ["internal/bytealg.CountString", "internal/bytealg.IndexByteString", "internal/bytealg.IndexString"], unfollowed := true, recurses := true, named := ["unicode/utf8.first", "unicode/utf8.acceptRanges", "internal/bytealg.MaxLen"], plainKeys := false, apart := false, laid := [("unicode/utf8.acceptRanges", laid_unicode_utf8_acceptRanges), ("unicode/utf8.first", laid_unicode_utf8_first)], narrowed := true }
def EarlyRightUptoSaid : Prop := earlyRightUptoRow.holds Tryz.pinned (OpenSpec.upto earlyRightSpec)

/-- 'farandolelaw22.EarlyLeast', WHERE WHAT IT READS IS OF BULK AT MOST 1048576: true; the input reads as it did. -/
def earlyLeastUptoRow : OpenClaim := { program := "ytbfebdbdoclagaagreatdoor", sum := "47f2cd88c4eabfb21eff607eaead4b4e0f6c3050ed98544d388f5f849ef03d29", func := "farandole/farandolelaw22.EarlyLeast", spec := "earlyLeast", inPlace := ["internal/bytealg.CountString", "internal/bytealg.IndexByteString", "internal/bytealg.IndexString"], unfollowed := true, recurses := true, named := ["unicode/utf8.first", "unicode/utf8.acceptRanges", "internal/bytealg.MaxLen"], plainKeys := false, apart := false, laid := [("unicode/utf8.acceptRanges", laid_unicode_utf8_acceptRanges), ("unicode/utf8.first", laid_unicode_utf8_first)], narrowed := true }
def EarlyLeastUptoSaid : Prop := earlyLeastUptoRow.holds Tryz.pinned (OpenSpec.upto earlyLeastSpec)

end Rows
end Go.Proofs.YtbfebdbdoclagaaGreatDoor
