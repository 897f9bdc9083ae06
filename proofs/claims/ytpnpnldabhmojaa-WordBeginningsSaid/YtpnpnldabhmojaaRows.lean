/-
  No cell of these rows narrows 'for every input' (looked for: loops, veiled, ifaces, maps, wideKeys, modest, calm, conditions, laid).
  DERIVED. THE GIVEN ROWS OF THIS SEAT. 8 by the template 'for every input the law returns true; each argument reads behind the call as it read before'; 0 by the template 'total and deterministic' (their statements: YtpnpnldabhmojaaTotals.lean).
  GIVEN WITH THE SEED: the statements are not yours to turn. If you find one false, say at which input.
  Laid BY PROGRAM, IN A SANDBOX (cutbox-rows.mjs): the forced cells as the released guide's own fill.sh prints them over the translation 6e23cfa1ae964d02… (all of the seat's roots in one cut). By AI agents, Wed Nov 11 2026. No macro, syntax, notation, axiom, sorry.
-/
import Derived.Test.YtpnpnldabhmojaaChecked
import GoSem.Claim
import GoSem.ClaimJoined
import GoSem.ClaimMapViews
import Derived.JoinedTies
import Derived.KernelRfl
namespace Go.Proofs.Ytpnpnldabhmojaa
/- THE CELL 'sum', in the pinned program and in every row, IS THE sha256 OF THE DUMP (.gsa) THAT YtpnpnldabhmojaaProg.lean LOADS. Nothing in Lean hashes anything: it is a label: what it is worth is what the hold of that sum in a sandbox is worth. -/
noncomputable def Try.pinned : Pinned := { name := "ytpnpnldabhmojaa", sum := "6e23cfa1ae964d0250807d70167d8d0aea9ba62414ca921d9a4d19f5472e188c", checked := Try.checked }
namespace Rows
def none {H : Type} : Left H := { results := [], args := [] }

/-- 'farandolelaw19.WordHistories': WHATEVER THE INPUT: true; the input reads as it did. -/
def wordHistoriesSpec : ChangeSpec := { name := "wordHistories", fn := fun _ => fun
  | [d1, d2, d3] => { results := [.lit (.bool true)], args := [d1, d2, d3] }
  | _ => none }
def wordHistoriesRow : OpenClaim := { program := "ytpnpnldabhmojaa", sum := "6e23cfa1ae964d0250807d70167d8d0aea9ba62414ca921d9a4d19f5472e188c", func := "farandole/farandolelaw19.WordHistories", spec := "wordHistories", apart := false }
def WordHistoriesSaid : Prop := wordHistoriesRow.holds Try.pinned (OpenSpec.ofChange wordHistoriesSpec)

/-- ITS FALSE NEIGHBOUR: 'it returns false'. Refute it at one input. -/
def wordHistoriesWrong : ChangeSpec := { name := "wordHistories", fn := fun _ => fun
  | [d1, d2, d3] => { results := [.lit (.bool false)], args := [d1, d2, d3] }
  | _ => none }
def WordHistoriesWrongFalsely : Prop := wordHistoriesRow.holds Try.pinned (OpenSpec.ofChange wordHistoriesWrong)

/-- 'farandolelaw19.WordSwap': WHATEVER THE INPUT: true; the input reads as it did. -/
def wordSwapSpec : ChangeSpec := { name := "wordSwap", fn := fun _ => fun
  | [d1, d2] => { results := [.lit (.bool true)], args := [d1, d2] }
  | _ => none }
def wordSwapRow : OpenClaim := { program := "ytpnpnldabhmojaa", sum := "6e23cfa1ae964d0250807d70167d8d0aea9ba62414ca921d9a4d19f5472e188c", func := "farandole/farandolelaw19.WordSwap", spec := "wordSwap", apart := false }
def WordSwapSaid : Prop := wordSwapRow.holds Try.pinned (OpenSpec.ofChange wordSwapSpec)

/-- ITS FALSE NEIGHBOUR: 'it returns false'. Refute it at one input. -/
def wordSwapWrong : ChangeSpec := { name := "wordSwap", fn := fun _ => fun
  | [d1, d2] => { results := [.lit (.bool false)], args := [d1, d2] }
  | _ => none }
def WordSwapWrongFalsely : Prop := wordSwapRow.holds Try.pinned (OpenSpec.ofChange wordSwapWrong)

/-- 'farandolelaw19.WordNormal': WHATEVER THE INPUT: true; the input reads as it did. -/
def wordNormalSpec : ChangeSpec := { name := "wordNormal", fn := fun _ => fun
  | [d] => { results := [.lit (.bool true)], args := [d] }
  | _ => none }
def wordNormalRow : OpenClaim := { program := "ytpnpnldabhmojaa", sum := "6e23cfa1ae964d0250807d70167d8d0aea9ba62414ca921d9a4d19f5472e188c", func := "farandole/farandolelaw19.WordNormal", spec := "wordNormal", apart := false }
def WordNormalSaid : Prop := wordNormalRow.holds Try.pinned (OpenSpec.ofChange wordNormalSpec)

/-- ITS FALSE NEIGHBOUR: 'it returns false'. Refute it at one input. -/
def wordNormalWrong : ChangeSpec := { name := "wordNormal", fn := fun _ => fun
  | [d] => { results := [.lit (.bool false)], args := [d] }
  | _ => none }
def WordNormalWrongFalsely : Prop := wordNormalRow.holds Try.pinned (OpenSpec.ofChange wordNormalWrong)

/-- 'farandolelaw19.WordLeast': WHATEVER THE INPUT: true; the input reads as it did. -/
def wordLeastSpec : ChangeSpec := { name := "wordLeast", fn := fun _ => fun
  | [d] => { results := [.lit (.bool true)], args := [d] }
  | _ => none }
def wordLeastRow : OpenClaim := { program := "ytpnpnldabhmojaa", sum := "6e23cfa1ae964d0250807d70167d8d0aea9ba62414ca921d9a4d19f5472e188c", func := "farandole/farandolelaw19.WordLeast", spec := "wordLeast", apart := false }
def WordLeastSaid : Prop := wordLeastRow.holds Try.pinned (OpenSpec.ofChange wordLeastSpec)

/-- ITS FALSE NEIGHBOUR: 'it returns false'. Refute it at one input. -/
def wordLeastWrong : ChangeSpec := { name := "wordLeast", fn := fun _ => fun
  | [d] => { results := [.lit (.bool false)], args := [d] }
  | _ => none }
def WordLeastWrongFalsely : Prop := wordLeastRow.holds Try.pinned (OpenSpec.ofChange wordLeastWrong)

/-- 'farandolelaw19.WordParts': WHATEVER THE INPUT: true; the input reads as it did. -/
def wordPartsSpec : ChangeSpec := { name := "wordParts", fn := fun _ => fun
  | [d1, d2, d3] => { results := [.lit (.bool true)], args := [d1, d2, d3] }
  | _ => none }
def wordPartsRow : OpenClaim := { program := "ytpnpnldabhmojaa", sum := "6e23cfa1ae964d0250807d70167d8d0aea9ba62414ca921d9a4d19f5472e188c", func := "farandole/farandolelaw19.WordParts", spec := "wordParts", apart := false }
def WordPartsSaid : Prop := wordPartsRow.holds Try.pinned (OpenSpec.ofChange wordPartsSpec)

/-- ITS FALSE NEIGHBOUR: 'it returns false'. Refute it at one input. -/
def wordPartsWrong : ChangeSpec := { name := "wordParts", fn := fun _ => fun
  | [d1, d2, d3] => { results := [.lit (.bool false)], args := [d1, d2, d3] }
  | _ => none }
def WordPartsWrongFalsely : Prop := wordPartsRow.holds Try.pinned (OpenSpec.ofChange wordPartsWrong)

/-- 'farandolelaw19.WordMerge': WHATEVER THE INPUT: true; the input reads as it did. -/
def wordMergeSpec : ChangeSpec := { name := "wordMerge", fn := fun _ => fun
  | [d] => { results := [.lit (.bool true)], args := [d] }
  | _ => none }
def wordMergeRow : OpenClaim := { program := "ytpnpnldabhmojaa", sum := "6e23cfa1ae964d0250807d70167d8d0aea9ba62414ca921d9a4d19f5472e188c", func := "farandole/farandolelaw19.WordMerge", spec := "wordMerge", apart := false }
def WordMergeSaid : Prop := wordMergeRow.holds Try.pinned (OpenSpec.ofChange wordMergeSpec)

/-- ITS FALSE NEIGHBOUR: 'it returns false'. Refute it at one input. -/
def wordMergeWrong : ChangeSpec := { name := "wordMerge", fn := fun _ => fun
  | [d] => { results := [.lit (.bool false)], args := [d] }
  | _ => none }
def WordMergeWrongFalsely : Prop := wordMergeRow.holds Try.pinned (OpenSpec.ofChange wordMergeWrong)

/-- 'farandolelaw19.WordOpen': WHATEVER THE INPUT: true; the input reads as it did. -/
def wordOpenSpec : ChangeSpec := { name := "wordOpen", fn := fun _ => fun
  | [d1, d2, d3] => { results := [.lit (.bool true)], args := [d1, d2, d3] }
  | _ => none }
def wordOpenRow : OpenClaim := { program := "ytpnpnldabhmojaa", sum := "6e23cfa1ae964d0250807d70167d8d0aea9ba62414ca921d9a4d19f5472e188c", func := "farandole/farandolelaw19.WordOpen", spec := "wordOpen", apart := false }
def WordOpenSaid : Prop := wordOpenRow.holds Try.pinned (OpenSpec.ofChange wordOpenSpec)

/-- ITS FALSE NEIGHBOUR: 'it returns false'. Refute it at one input. -/
def wordOpenWrong : ChangeSpec := { name := "wordOpen", fn := fun _ => fun
  | [d1, d2, d3] => { results := [.lit (.bool false)], args := [d1, d2, d3] }
  | _ => none }
def WordOpenWrongFalsely : Prop := wordOpenRow.holds Try.pinned (OpenSpec.ofChange wordOpenWrong)

/-- 'farandolelaw19.WordBeginnings': WHATEVER THE INPUT: true; the input reads as it did. -/
def wordBeginningsSpec : ChangeSpec := { name := "wordBeginnings", fn := fun _ => fun
  | [d1, d2] => { results := [.lit (.bool true)], args := [d1, d2] }
  | _ => none }
def wordBeginningsRow : OpenClaim := { program := "ytpnpnldabhmojaa", sum := "6e23cfa1ae964d0250807d70167d8d0aea9ba62414ca921d9a4d19f5472e188c", func := "farandole/farandolelaw19.WordBeginnings", spec := "wordBeginnings", apart := false }
def WordBeginningsSaid : Prop := wordBeginningsRow.holds Try.pinned (OpenSpec.ofChange wordBeginningsSpec)

/-- ITS FALSE NEIGHBOUR: 'it returns false'. Refute it at one input. -/
def wordBeginningsWrong : ChangeSpec := { name := "wordBeginnings", fn := fun _ => fun
  | [d1, d2] => { results := [.lit (.bool false)], args := [d1, d2] }
  | _ => none }
def WordBeginningsWrongFalsely : Prop := wordBeginningsRow.holds Try.pinned (OpenSpec.ofChange wordBeginningsWrong)

/- THE SECOND FORM. 'bulk': how many values and letters a reading holds, each counted each time it is reached (what is shared counts as often as it is met; a slice's spare places count too). A statement '..UptoSaid' is the law's where the arguments, and the package variables that the reading takes, are together of bulk at most 1048576: NARROWER than '..Said'. Prove '..Said' where nothing that the law and all that it calls make is longer than what came in: it says more and counts as full. Else prove '..UptoSaid'. A law counts once. -/
mutual
def uptoBulk {H : Type} : DataW H → Nat
  | .lit (.string bytes) => bytes.length + 1
  | .lit _ => 1
  | .nil => 1
  | .ptr d => uptoBulk d + 1
  | .slice elems spare => uptoBulkAll elems + uptoBulkAll spare + 1
  | .agg parts => uptoBulkAll parts + 1
  | .iface _ d => uptoBulk d + 1
  | .map entries => uptoBulkEntries entries + 1
  | .held _ => 1
def uptoBulkAll {H : Type} : List (DataW H) → Nat
  | [] => 0
  | d :: r => uptoBulk d + uptoBulkAll r
def uptoBulkEntries {H : Type} : List (Lit × DataW H) → Nat
  | [] => 0
  | x :: r => uptoBulkEntry x + uptoBulkEntries r
def uptoBulkEntry {H : Type} : Lit × DataW H → Nat
  | (.string bytes, d) => bytes.length + uptoBulk d + 1
  | (_, d) => uptoBulk d + 1
 end
def uptoSmall : (H : Type) → List (DataW H) → Bool := fun _ ds => decide (uptoBulkAll ds ≤ 1048576)
def OpenSpec.upto (s : _root_.Go.ChangeSpec) : _root_.Go.OpenSpec := { _root_.Go.OpenSpec.ofChange s with cond := some uptoSmall }

/-- 'farandolelaw19.WordHistories', WHERE WHAT IT READS IS OF BULK AT MOST 1048576: true; the input reads as it did. -/
def wordHistoriesUptoRow : OpenClaim := { program := "ytpnpnldabhmojaa", sum := "6e23cfa1ae964d0250807d70167d8d0aea9ba62414ca921d9a4d19f5472e188c", func := "farandole/farandolelaw19.WordHistories", spec := "wordHistories", apart := false, narrowed := true }
def WordHistoriesUptoSaid : Prop := wordHistoriesUptoRow.holds Try.pinned (OpenSpec.upto wordHistoriesSpec)

/-- 'farandolelaw19.WordSwap', WHERE WHAT IT READS IS OF BULK AT MOST 1048576: true; the input reads as it did. -/
def wordSwapUptoRow : OpenClaim := { program := "ytpnpnldabhmojaa", sum := "6e23cfa1ae964d0250807d70167d8d0aea9ba62414ca921d9a4d19f5472e188c", func := "farandole/farandolelaw19.WordSwap", spec := "wordSwap", apart := false, narrowed := true }
def WordSwapUptoSaid : Prop := wordSwapUptoRow.holds Try.pinned (OpenSpec.upto wordSwapSpec)

/-- 'farandolelaw19.WordNormal', WHERE WHAT IT READS IS OF BULK AT MOST 1048576: true; the input reads as it did. -/
def wordNormalUptoRow : OpenClaim := { program := "ytpnpnldabhmojaa", sum := "6e23cfa1ae964d0250807d70167d8d0aea9ba62414ca921d9a4d19f5472e188c", func := "farandole/farandolelaw19.WordNormal", spec := "wordNormal", apart := false, narrowed := true }
def WordNormalUptoSaid : Prop := wordNormalUptoRow.holds Try.pinned (OpenSpec.upto wordNormalSpec)

/-- 'farandolelaw19.WordLeast', WHERE WHAT IT READS IS OF BULK AT MOST 1048576: true; the input reads as it did. -/
def wordLeastUptoRow : OpenClaim := { program := "ytpnpnldabhmojaa", sum := "6e23cfa1ae964d0250807d70167d8d0aea9ba62414ca921d9a4d19f5472e188c", func := "farandole/farandolelaw19.WordLeast", spec := "wordLeast", apart := false, narrowed := true }
def WordLeastUptoSaid : Prop := wordLeastUptoRow.holds Try.pinned (OpenSpec.upto wordLeastSpec)

/-- 'farandolelaw19.WordParts', WHERE WHAT IT READS IS OF BULK AT MOST 1048576: true; the input reads as it did. -/
def wordPartsUptoRow : OpenClaim := { program := "ytpnpnldabhmojaa", sum := "6e23cfa1ae964d0250807d70167d8d0aea9ba62414ca921d9a4d19f5472e188c", func := "farandole/farandolelaw19.WordParts", spec := "wordParts", apart := false, narrowed := true }
def WordPartsUptoSaid : Prop := wordPartsUptoRow.holds Try.pinned (OpenSpec.upto wordPartsSpec)

/-- 'farandolelaw19.WordMerge', WHERE WHAT IT READS IS OF BULK AT MOST 1048576: true; the input reads as it did. -/
def wordMergeUptoRow : OpenClaim := { program := "ytpnpnldabhmojaa", sum := "6e23cfa1ae964d0250807d70167d8d0aea9ba62414ca921d9a4d19f5472e188c", func := "farandole/farandolelaw19.WordMerge", spec := "wordMerge", apart := false, narrowed := true }
def WordMergeUptoSaid : Prop := wordMergeUptoRow.holds Try.pinned (OpenSpec.upto wordMergeSpec)

/-- 'farandolelaw19.WordOpen', WHERE WHAT IT READS IS OF BULK AT MOST 1048576: true; the input reads as it did. -/
def wordOpenUptoRow : OpenClaim := { program := "ytpnpnldabhmojaa", sum := "6e23cfa1ae964d0250807d70167d8d0aea9ba62414ca921d9a4d19f5472e188c", func := "farandole/farandolelaw19.WordOpen", spec := "wordOpen", apart := false, narrowed := true }
def WordOpenUptoSaid : Prop := wordOpenUptoRow.holds Try.pinned (OpenSpec.upto wordOpenSpec)

/-- 'farandolelaw19.WordBeginnings', WHERE WHAT IT READS IS OF BULK AT MOST 1048576: true; the input reads as it did. -/
def wordBeginningsUptoRow : OpenClaim := { program := "ytpnpnldabhmojaa", sum := "6e23cfa1ae964d0250807d70167d8d0aea9ba62414ca921d9a4d19f5472e188c", func := "farandole/farandolelaw19.WordBeginnings", spec := "wordBeginnings", apart := false, narrowed := true }
def WordBeginningsUptoSaid : Prop := wordBeginningsUptoRow.holds Try.pinned (OpenSpec.upto wordBeginningsSpec)

end Rows
end Go.Proofs.Ytpnpnldabhmojaa
