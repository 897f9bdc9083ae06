/-
  NARROWER THAN 'FOR EVERY INPUT', by the rows' own cells (each row's printed sentence says how): WordPath: laid · VersionsCompare: laid · VersionsAfter: laid · VersionsSame: laid · VersionsMore: laid · VersionsWords: laid.
  DERIVED. THE GIVEN ROWS OF THIS SEAT. 6 by the template 'for every input the law returns true; each argument reads behind the call as it read before'; 0 by the template 'total and deterministic' (their statements: YtpdfolkoejbbgaaGreatDoorTotals.lean).
  GIVEN WITH THE SEED: the statements are not yours to turn. If you find one false, say at which input.
  Laid BY PROGRAM, IN A SANDBOX (cutbox-rows.mjs): the forced cells as the released guide's own fill.sh prints them over the translation 8bf593fc05d43143… (all of the seat's roots in one cut). By AI agents, Wed Nov 11 2026. No macro, syntax, notation, axiom, sorry.
-/
import Derived.Test.YtpdfolkoejbbgaaGreatDoorChecked
import GoSem.PinnedTables
import GoSem.Claim
import GoSem.ClaimJoined
import GoSem.ClaimMapViews
import Derived.JoinedTies
import Derived.KernelRfl
namespace Go.Proofs.YtpdfolkoejbbgaaGreatDoor
/- THE CELL 'sum', in the pinned program and in every row, IS THE sha256 OF THE DUMP (.gsa) THAT YtpdfolkoejbbgaaGreatDoorProg.lean LOADS. Nothing in Lean hashes anything: it is a label: what it is worth is what the hold of that sum in a sandbox is worth. -/
noncomputable def Tryz.pinned : Pinned := { name := "ytpdfolkoejbbgaagreatdoor", sum := "8bf593fc05d431434e38646a91a3189643cbd0b319eb0981dae097ca7b1bd172", checked := Tryz.checked }
namespace Rows
def none {H : Type} : Left H := { results := [], args := [] }

/- WHAT THE LISTED PACKAGE-LEVEL VARIABLES READ AS WHEN THE CALL BEGINS. Each datum BY PROGRAM (the guide's laid-datum.mjs) off the statement by which the dump's own 'gosem.cut.vars' lays the variable. In a bare row this is a premise. The card (YtpdfolkoejbbgaaGreatDoorCards.lean) ties it to the program's text. -/
def laid_unicode_utf8_acceptRanges {H : Type} : DataW H := .agg [.agg [.lit (.int .u8 128), .lit (.int .u8 191)], .agg [.lit (.int .u8 160), .lit (.int .u8 191)], .agg [.lit (.int .u8 128), .lit (.int .u8 159)], .agg [.lit (.int .u8 144), .lit (.int .u8 191)], .agg [.lit (.int .u8 128), .lit (.int .u8 143)], .agg [.lit (.int .u8 0), .lit (.int .u8 0)], .agg [.lit (.int .u8 0), .lit (.int .u8 0)], .agg [.lit (.int .u8 0), .lit (.int .u8 0)], .agg [.lit (.int .u8 0), .lit (.int .u8 0)], .agg [.lit (.int .u8 0), .lit (.int .u8 0)], .agg [.lit (.int .u8 0), .lit (.int .u8 0)], .agg [.lit (.int .u8 0), .lit (.int .u8 0)], .agg [.lit (.int .u8 0), .lit (.int .u8 0)], .agg [.lit (.int .u8 0), .lit (.int .u8 0)], .agg [.lit (.int .u8 0), .lit (.int .u8 0)], .agg [.lit (.int .u8 0), .lit (.int .u8 0)]]
/-- One of Go's own tables, pinned by name: the form's constant. -/
def laid_unicode_utf8_first : DataW Unit := Go.Pinned.utf8First

/-- 'farandolelaw19.WordPath': WHATEVER THE INPUT: true; the input reads as it did. -/
def wordPathSpec : ChangeSpec := { name := "wordPath", fn := fun _ => fun
  | [d1, d2, d3] => { results := [.lit (.bool true)], args := [d1, d2, d3] }
  | _ => none }
def wordPathRow : OpenClaim := { program := "ytpdfolkoejbbgaagreatdoor", sum := "8bf593fc05d431434e38646a91a3189643cbd0b319eb0981dae097ca7b1bd172", func := "farandole/farandolelaw19.WordPath", spec := "wordPath", inPlace := ["internal/bytealg.CountString", "internal/bytealg.IndexByteString", "internal/bytealg.IndexString"], unfollowed := true, recurses := true, named := ["unicode/utf8.first", "unicode/utf8.acceptRanges", "internal/bytealg.MaxLen"], plainKeys := false, apart := false, laid := [("unicode/utf8.acceptRanges", laid_unicode_utf8_acceptRanges), ("unicode/utf8.first", laid_unicode_utf8_first)] }
def WordPathSaid : Prop := wordPathRow.holds Tryz.pinned (OpenSpec.ofChange wordPathSpec)

/-- ITS FALSE NEIGHBOUR: 'it returns false'. Refute it at one input. -/
def wordPathWrong : ChangeSpec := { name := "wordPath", fn := fun _ => fun
  | [d1, d2, d3] => { results := [.lit (.bool false)], args := [d1, d2, d3] }
  | _ => none }
def WordPathWrongFalsely : Prop := wordPathRow.holds Tryz.pinned (OpenSpec.ofChange wordPathWrong)

/-- 'farandolelaw31.VersionsCompare': WHATEVER THE INPUT: true; the input reads as it did. -/
def versionsCompareSpec : ChangeSpec := { name := "versionsCompare", fn := fun _ => fun
  | [d1, d2] => { results := [.lit (.bool true)], args := [d1, d2] }
  | _ => none }
def versionsCompareRow : OpenClaim := { program := "ytpdfolkoejbbgaagreatdoor", sum := "8bf593fc05d431434e38646a91a3189643cbd0b319eb0981dae097ca7b1bd172", func := "farandole/farandolelaw31.VersionsCompare", spec := "versionsCompare", inPlace := ["internal/bytealg.CountString", "internal/bytealg.IndexByteString", "internal/bytealg.IndexString"], unfollowed := true, recurses := true, named := ["unicode/utf8.first", "unicode/utf8.acceptRanges", "internal/bytealg.MaxLen"], plainKeys := false, apart := false, laid := [("unicode/utf8.acceptRanges", laid_unicode_utf8_acceptRanges), ("unicode/utf8.first", laid_unicode_utf8_first)] }
def VersionsCompareSaid : Prop := versionsCompareRow.holds Tryz.pinned (OpenSpec.ofChange versionsCompareSpec)

/-- ITS FALSE NEIGHBOUR: 'it returns false'. Refute it at one input. -/
def versionsCompareWrong : ChangeSpec := { name := "versionsCompare", fn := fun _ => fun
  | [d1, d2] => { results := [.lit (.bool false)], args := [d1, d2] }
  | _ => none }
def VersionsCompareWrongFalsely : Prop := versionsCompareRow.holds Tryz.pinned (OpenSpec.ofChange versionsCompareWrong)

/-- 'farandolelaw31.VersionsAfter': WHATEVER THE INPUT: true; the input reads as it did. -/
def versionsAfterSpec : ChangeSpec := { name := "versionsAfter", fn := fun _ => fun
  | [d1, d2, d3] => { results := [.lit (.bool true)], args := [d1, d2, d3] }
  | _ => none }
def versionsAfterRow : OpenClaim := { program := "ytpdfolkoejbbgaagreatdoor", sum := "8bf593fc05d431434e38646a91a3189643cbd0b319eb0981dae097ca7b1bd172", func := "farandole/farandolelaw31.VersionsAfter", spec := "versionsAfter", inPlace := ["internal/bytealg.CountString", "internal/bytealg.IndexByteString", "internal/bytealg.IndexString"], unfollowed := true, recurses := true, named := ["unicode/utf8.first", "unicode/utf8.acceptRanges", "internal/bytealg.MaxLen"], plainKeys := false, apart := false, laid := [("unicode/utf8.acceptRanges", laid_unicode_utf8_acceptRanges), ("unicode/utf8.first", laid_unicode_utf8_first)] }
def VersionsAfterSaid : Prop := versionsAfterRow.holds Tryz.pinned (OpenSpec.ofChange versionsAfterSpec)

/-- ITS FALSE NEIGHBOUR: 'it returns false'. Refute it at one input. -/
def versionsAfterWrong : ChangeSpec := { name := "versionsAfter", fn := fun _ => fun
  | [d1, d2, d3] => { results := [.lit (.bool false)], args := [d1, d2, d3] }
  | _ => none }
def VersionsAfterWrongFalsely : Prop := versionsAfterRow.holds Tryz.pinned (OpenSpec.ofChange versionsAfterWrong)

/-- 'farandolelaw31.VersionsSame': WHATEVER THE INPUT: true; the input reads as it did. -/
def versionsSameSpec : ChangeSpec := { name := "versionsSame", fn := fun _ => fun
  | [d] => { results := [.lit (.bool true)], args := [d] }
  | _ => none }
def versionsSameRow : OpenClaim := { program := "ytpdfolkoejbbgaagreatdoor", sum := "8bf593fc05d431434e38646a91a3189643cbd0b319eb0981dae097ca7b1bd172", func := "farandole/farandolelaw31.VersionsSame", spec := "versionsSame", inPlace := ["internal/bytealg.CountString", "internal/bytealg.IndexByteString", "internal/bytealg.IndexString"], unfollowed := true, recurses := true, named := ["unicode/utf8.first", "unicode/utf8.acceptRanges", "internal/bytealg.MaxLen"], plainKeys := false, apart := false, laid := [("unicode/utf8.acceptRanges", laid_unicode_utf8_acceptRanges), ("unicode/utf8.first", laid_unicode_utf8_first)] }
def VersionsSameSaid : Prop := versionsSameRow.holds Tryz.pinned (OpenSpec.ofChange versionsSameSpec)

/-- ITS FALSE NEIGHBOUR: 'it returns false'. Refute it at one input. -/
def versionsSameWrong : ChangeSpec := { name := "versionsSame", fn := fun _ => fun
  | [d] => { results := [.lit (.bool false)], args := [d] }
  | _ => none }
def VersionsSameWrongFalsely : Prop := versionsSameRow.holds Tryz.pinned (OpenSpec.ofChange versionsSameWrong)

/-- 'farandolelaw31.VersionsMore': WHATEVER THE INPUT: true; the input reads as it did. -/
def versionsMoreSpec : ChangeSpec := { name := "versionsMore", fn := fun _ => fun
  | [d1, d2, d3] => { results := [.lit (.bool true)], args := [d1, d2, d3] }
  | _ => none }
def versionsMoreRow : OpenClaim := { program := "ytpdfolkoejbbgaagreatdoor", sum := "8bf593fc05d431434e38646a91a3189643cbd0b319eb0981dae097ca7b1bd172", func := "farandole/farandolelaw31.VersionsMore", spec := "versionsMore", inPlace := ["internal/bytealg.CountString", "internal/bytealg.IndexByteString", "internal/bytealg.IndexString"], unfollowed := true, recurses := true, named := ["unicode/utf8.first", "unicode/utf8.acceptRanges", "internal/bytealg.MaxLen"], plainKeys := false, apart := false, laid := [("unicode/utf8.acceptRanges", laid_unicode_utf8_acceptRanges), ("unicode/utf8.first", laid_unicode_utf8_first)] }
def VersionsMoreSaid : Prop := versionsMoreRow.holds Tryz.pinned (OpenSpec.ofChange versionsMoreSpec)

/-- ITS FALSE NEIGHBOUR: 'it returns false'. Refute it at one input. -/
def versionsMoreWrong : ChangeSpec := { name := "versionsMore", fn := fun _ => fun
  | [d1, d2, d3] => { results := [.lit (.bool false)], args := [d1, d2, d3] }
  | _ => none }
def VersionsMoreWrongFalsely : Prop := versionsMoreRow.holds Tryz.pinned (OpenSpec.ofChange versionsMoreWrong)

/-- 'farandolelaw31.VersionsWords': WHATEVER THE INPUT: true; the input reads as it did. -/
def versionsWordsSpec : ChangeSpec := { name := "versionsWords", fn := fun _ => fun
  | [d1, d2] => { results := [.lit (.bool true)], args := [d1, d2] }
  | _ => none }
def versionsWordsRow : OpenClaim := { program := "ytpdfolkoejbbgaagreatdoor", sum := "8bf593fc05d431434e38646a91a3189643cbd0b319eb0981dae097ca7b1bd172", func := "farandole/farandolelaw31.VersionsWords", spec := "versionsWords", inPlace := ["internal/bytealg.CountString", "internal/bytealg.IndexByteString", "internal/bytealg.IndexString"], unfollowed := true, recurses := true, named := ["unicode/utf8.first", "unicode/utf8.acceptRanges", "internal/bytealg.MaxLen"], plainKeys := false, apart := false, laid := [("unicode/utf8.acceptRanges", laid_unicode_utf8_acceptRanges), ("unicode/utf8.first", laid_unicode_utf8_first)] }
def VersionsWordsSaid : Prop := versionsWordsRow.holds Tryz.pinned (OpenSpec.ofChange versionsWordsSpec)

/-- ITS FALSE NEIGHBOUR: 'it returns false'. Refute it at one input. -/
def versionsWordsWrong : ChangeSpec := { name := "versionsWords", fn := fun _ => fun
  | [d1, d2] => { results := [.lit (.bool false)], args := [d1, d2] }
  | _ => none }
def VersionsWordsWrongFalsely : Prop := versionsWordsRow.holds Tryz.pinned (OpenSpec.ofChange versionsWordsWrong)

/- THE SECOND FORM. 'bulk': how many values and letters a reading holds, each counted each time it is reached (what is shared counts as often as it is met; a slice's spare places count too). A statement '..UptoSaid' is the law's where the arguments, and the package variables that the reading takes, are together of bulk at most 1048576: NARROWER than '..Said'. Prove '..Said' where nothing that the law and all that it calls make is longer than what came in: it says more and counts as full. Else prove '..UptoSaid'. A law counts once. -/
mutual
def uptoBulk {H : Type} : DataW H → Nat
  | .lit (.string bytes) => bytes.length + 1
  | .lit _ => 1
  | .nil => 1
  | .ptr d => uptoBulk d + 1
  | .slice elems spare => uptoBulkAll elems + uptoBulkAll spare + 1
  | .agg parts => uptoBulkAll parts + 1
  | .iface _ d => uptoBulk d + 1
  | .map entries => uptoBulkEntries entries + 1
  | .held _ => 1
def uptoBulkAll {H : Type} : List (DataW H) → Nat
  | [] => 0
  | d :: r => uptoBulk d + uptoBulkAll r
def uptoBulkEntries {H : Type} : List (Lit × DataW H) → Nat
  | [] => 0
  | x :: r => uptoBulkEntry x + uptoBulkEntries r
def uptoBulkEntry {H : Type} : Lit × DataW H → Nat
  | (.string bytes, d) => bytes.length + uptoBulk d + 1
  | (_, d) => uptoBulk d + 1
 end
def uptoSmall : (H : Type) → List (DataW H) → Bool := fun _ ds => decide (uptoBulkAll ds ≤ 1048576)
def OpenSpec.upto (s : _root_.Go.ChangeSpec) : _root_.Go.OpenSpec := { _root_.Go.OpenSpec.ofChange s with cond := some uptoSmall }

/-- 'farandolelaw19.WordPath', WHERE WHAT IT READS IS OF BULK AT MOST 1048576: true; the input reads as it did. -/
def wordPathUptoRow : OpenClaim := { program := "ytpdfolkoejbbgaagreatdoor", sum := "8bf593fc05d431434e38646a91a3189643cbd0b319eb0981dae097ca7b1bd172", func := "farandole/farandolelaw19.WordPath", spec := "wordPath", inPlace := ["internal/bytealg.CountString", "internal/bytealg.IndexByteString", "internal/bytealg.IndexString"], unfollowed := true, recurses := true, named := ["unicode/utf8.first", "unicode/utf8.acceptRanges", "internal/bytealg.MaxLen"], plainKeys := false, apart := false, laid := [("unicode/utf8.acceptRanges", laid_unicode_utf8_acceptRanges), ("unicode/utf8.first", laid_unicode_utf8_first)], narrowed := true }
def WordPathUptoSaid : Prop := wordPathUptoRow.holds Tryz.pinned (OpenSpec.upto wordPathSpec)

/-- 'farandolelaw31.VersionsCompare', WHERE WHAT IT READS IS OF BULK AT MOST 1048576: true; the input reads as it did. -/
def versionsCompareUptoRow : OpenClaim := { program := "ytpdfolkoejbbgaagreatdoor", sum := "8bf593fc05d431434e38646a91a3189643cbd0b319eb0981dae097ca7b1bd172", func := "farandole/farandolelaw31.VersionsCompare", spec := "versionsCompare", inPlace := ["internal/bytealg.CountString", "internal/bytealg.IndexByteString", "internal/bytealg.IndexString"], unfollowed := true, recurses := true, named := ["unicode/utf8.first", "unicode/utf8.acceptRanges", "internal/bytealg.MaxLen"], plainKeys := false, apart := false, laid := [("unicode/utf8.acceptRanges", laid_unicode_utf8_acceptRanges), ("unicode/utf8.first", laid_unicode_utf8_first)], narrowed := true }
def VersionsCompareUptoSaid : Prop := versionsCompareUptoRow.holds Tryz.pinned (OpenSpec.upto versionsCompareSpec)

/-- 'farandolelaw31.VersionsAfter', WHERE WHAT IT READS IS OF BULK AT MOST 1048576: true; the input reads as it did. -/
def versionsAfterUptoRow : OpenClaim := { program := "ytpdfolkoejbbgaagreatdoor", sum := "8bf593fc05d431434e38646a91a3189643cbd0b319eb0981dae097ca7b1bd172", func := "farandole/farandolelaw31.VersionsAfter", spec := "versionsAfter", inPlace := ["internal/bytealg.CountString", "internal/bytealg.IndexByteString", "internal/bytealg.IndexString"], unfollowed := true, recurses := true, named := ["unicode/utf8.first", "unicode/utf8.acceptRanges", "internal/bytealg.MaxLen"], plainKeys := false, apart := false, laid := [("unicode/utf8.acceptRanges", laid_unicode_utf8_acceptRanges), ("unicode/utf8.first", laid_unicode_utf8_first)], narrowed := true }
def VersionsAfterUptoSaid : Prop := versionsAfterUptoRow.holds Tryz.pinned (OpenSpec.upto versionsAfterSpec)

/-- 'farandolelaw31.VersionsSame', WHERE WHAT IT READS IS OF BULK AT MOST 1048576: true; the input reads as it did. -/
def versionsSameUptoRow : OpenClaim := { program := "ytpdfolkoejbbgaagreatdoor", sum := "8bf593fc05d431434e38646a91a3189643cbd0b319eb0981dae097ca7b1bd172", func := "farandole/farandolelaw31.VersionsSame", spec := "versionsSame", inPlace := ["internal/bytealg.CountString", "internal/bytealg.IndexByteString", "internal/bytealg.IndexString"], unfollowed := true, recurses := true, named := ["unicode/utf8.first", "unicode/utf8.acceptRanges", "internal/bytealg.MaxLen"], plainKeys := false, apart := false, laid := [("unicode/utf8.acceptRanges", laid_unicode_utf8_acceptRanges), ("unicode/utf8.first", laid_unicode_utf8_first)], narrowed := true }
def VersionsSameUptoSaid : Prop := versionsSameUptoRow.holds Tryz.pinned (OpenSpec.upto versionsSameSpec)

/-- 'farandolelaw31.VersionsMore', WHERE WHAT IT READS IS OF BULK AT MOST 1048576: true; the input reads as it did. -/
def versionsMoreUptoRow : OpenClaim := { program := "ytpdfolkoejbbgaagreatdoor", sum := "8bf593fc05d431434e38646a91a3189643cbd0b319eb0981dae097ca7b1bd172", func := "farandole/farandolelaw31.VersionsMore", spec := "versionsMore", inPlace := ["internal/bytealg.CountString", "internal/bytealg.IndexByteString", "internal/bytealg.IndexString"], unfollowed := true, recurses := true, named := ["unicode/utf8.first", "unicode/utf8.acceptRanges", "internal/bytealg.MaxLen"], plainKeys := false, apart := false, laid := [("unicode/utf8.acceptRanges", laid_unicode_utf8_acceptRanges), ("unicode/utf8.first", laid_unicode_utf8_first)], narrowed := true }
def VersionsMoreUptoSaid : Prop := versionsMoreUptoRow.holds Tryz.pinned (OpenSpec.upto versionsMoreSpec)

/-- 'farandolelaw31.VersionsWords', WHERE WHAT IT READS IS OF BULK AT MOST 1048576: true; the input reads as it did. -/
def versionsWordsUptoRow : OpenClaim := { program := "ytpdfolkoejbbgaagreatdoor", sum := "8bf593fc05d431434e38646a91a3189643cbd0b319eb0981dae097ca7b1bd172", func := "farandole/farandolelaw31.VersionsWords", spec := "versionsWords", inPlace := ["internal/bytealg.CountString", "internal/bytealg.IndexByteString", "internal/bytealg.IndexString"], unfollowed := true, recurses := true, named := ["unicode/utf8.first", "unicode/utf8.acceptRanges", "internal/bytealg.MaxLen"], plainKeys := false, apart := false, laid := [("unicode/utf8.acceptRanges", laid_unicode_utf8_acceptRanges), ("unicode/utf8.first", laid_unicode_utf8_first)], narrowed := true }
def VersionsWordsUptoSaid : Prop := versionsWordsUptoRow.holds Tryz.pinned (OpenSpec.upto versionsWordsSpec)

end Rows
end Go.Proofs.YtpdfolkoejbbgaaGreatDoor
