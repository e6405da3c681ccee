/-
  No cell of these rows narrows 'for every input' (looked for: loops, veiled, ifaces, maps, wideKeys, modest, calm, conditions, laid).
  DERIVED. THE GIVEN ROWS OF THIS SEAT. 8 by the template 'for every input the law returns true; each argument reads behind the call as it read before'; 0 by the template 'total and deterministic' (their statements: YtkdekdogfplbmaaTotals.lean).
  GIVEN WITH THE SEED: the statements are not yours to turn. If you find one false, say at which input.
  Laid BY PROGRAM, IN A SANDBOX (cutbox-rows.mjs): the forced cells as the released guide's own fill.sh prints them over the translation c7c7fc35c2553ade… (all of the seat's roots in one cut). By AI agents, Wed Nov 11 2026. No macro, syntax, notation, axiom, sorry.
-/
import Derived.Test.YtkdekdogfplbmaaChecked
import GoSem.Claim
import GoSem.ClaimJoined
import GoSem.ClaimMapViews
import Derived.JoinedTies
import Derived.KernelRfl
namespace Go.Proofs.Ytkdekdogfplbmaa
/- THE CELL 'sum', in the pinned program and in every row, IS THE sha256 OF THE DUMP (.gsa) THAT YtkdekdogfplbmaaProg.lean LOADS. Nothing in Lean hashes anything: it is a label: what it is worth is what the hold of that sum in a sandbox is worth. -/
noncomputable def Try.pinned : Pinned := { name := "ytkdekdogfplbmaa", sum := "c7c7fc35c2553ade71b09715383e70d89a7f46b1f40d36e397c779f0b470e504", checked := Try.checked }
namespace Rows
def none {H : Type} : Left H := { results := [], args := [] }

/-- 'lookoutlaw22.MarkBound': WHATEVER THE INPUT: true; the input reads as it did. -/
def markBoundSpec : ChangeSpec := { name := "markBound", fn := fun _ => fun
  | [d1, d2, d3] => { results := [.lit (.bool true)], args := [d1, d2, d3] }
  | _ => none }
def markBoundRow : OpenClaim := { program := "ytkdekdogfplbmaa", sum := "c7c7fc35c2553ade71b09715383e70d89a7f46b1f40d36e397c779f0b470e504", func := "lookout/lookoutlaw22.MarkBound", spec := "markBound", unfollowed := true, recurses := true, apart := false }
def MarkBoundSaid : Prop := markBoundRow.holds Try.pinned (OpenSpec.ofChange markBoundSpec)

/-- ITS FALSE NEIGHBOUR: 'it returns false'. Refute it at one input. -/
def markBoundWrong : ChangeSpec := { name := "markBound", fn := fun _ => fun
  | [d1, d2, d3] => { results := [.lit (.bool false)], args := [d1, d2, d3] }
  | _ => none }
def MarkBoundWrongFalsely : Prop := markBoundRow.holds Try.pinned (OpenSpec.ofChange markBoundWrong)

/-- 'lookoutlaw22.MarkRaises': WHATEVER THE INPUT: true; the input reads as it did. -/
def markRaisesSpec : ChangeSpec := { name := "markRaises", fn := fun _ => fun
  | [d] => { results := [.lit (.bool true)], args := [d] }
  | _ => none }
def markRaisesRow : OpenClaim := { program := "ytkdekdogfplbmaa", sum := "c7c7fc35c2553ade71b09715383e70d89a7f46b1f40d36e397c779f0b470e504", func := "lookout/lookoutlaw22.MarkRaises", spec := "markRaises", unfollowed := true, recurses := true, apart := false }
def MarkRaisesSaid : Prop := markRaisesRow.holds Try.pinned (OpenSpec.ofChange markRaisesSpec)

/-- ITS FALSE NEIGHBOUR: 'it returns false'. Refute it at one input. -/
def markRaisesWrong : ChangeSpec := { name := "markRaises", fn := fun _ => fun
  | [d] => { results := [.lit (.bool false)], args := [d] }
  | _ => none }
def MarkRaisesWrongFalsely : Prop := markRaisesRow.holds Try.pinned (OpenSpec.ofChange markRaisesWrong)

/-- 'lookoutlaw22.MarkLeast': WHATEVER THE INPUT: true; the input reads as it did. -/
def markLeastSpec : ChangeSpec := { name := "markLeast", fn := fun _ => fun
  | [d1, d2, d3, d4] => { results := [.lit (.bool true)], args := [d1, d2, d3, d4] }
  | _ => none }
def markLeastRow : OpenClaim := { program := "ytkdekdogfplbmaa", sum := "c7c7fc35c2553ade71b09715383e70d89a7f46b1f40d36e397c779f0b470e504", func := "lookout/lookoutlaw22.MarkLeast", spec := "markLeast", unfollowed := true, recurses := true, apart := false }
def MarkLeastSaid : Prop := markLeastRow.holds Try.pinned (OpenSpec.ofChange markLeastSpec)

/-- ITS FALSE NEIGHBOUR: 'it returns false'. Refute it at one input. -/
def markLeastWrong : ChangeSpec := { name := "markLeast", fn := fun _ => fun
  | [d1, d2, d3, d4] => { results := [.lit (.bool false)], args := [d1, d2, d3, d4] }
  | _ => none }
def MarkLeastWrongFalsely : Prop := markLeastRow.holds Try.pinned (OpenSpec.ofChange markLeastWrong)

/-- 'lookoutlaw22.MarkGrows': WHATEVER THE INPUT: true; the input reads as it did. -/
def markGrowsSpec : ChangeSpec := { name := "markGrows", fn := fun _ => fun
  | [d1, d2, d3, d4, d5, d6] => { results := [.lit (.bool true)], args := [d1, d2, d3, d4, d5, d6] }
  | _ => none }
def markGrowsRow : OpenClaim := { program := "ytkdekdogfplbmaa", sum := "c7c7fc35c2553ade71b09715383e70d89a7f46b1f40d36e397c779f0b470e504", func := "lookout/lookoutlaw22.MarkGrows", spec := "markGrows", unfollowed := true, recurses := true, apart := false }
def MarkGrowsSaid : Prop := markGrowsRow.holds Try.pinned (OpenSpec.ofChange markGrowsSpec)

/-- ITS FALSE NEIGHBOUR: 'it returns false'. Refute it at one input. -/
def markGrowsWrong : ChangeSpec := { name := "markGrows", fn := fun _ => fun
  | [d1, d2, d3, d4, d5, d6] => { results := [.lit (.bool false)], args := [d1, d2, d3, d4, d5, d6] }
  | _ => none }
def MarkGrowsWrongFalsely : Prop := markGrowsRow.holds Try.pinned (OpenSpec.ofChange markGrowsWrong)

/-- 'lookoutlaw24.LedgerPattern': WHATEVER THE INPUT: true; the input reads as it did. -/
def ledgerPatternSpec : ChangeSpec := { name := "ledgerPattern", fn := fun _ => fun
  | [d1, d2, d3] => { results := [.lit (.bool true)], args := [d1, d2, d3] }
  | _ => none }
def ledgerPatternRow : OpenClaim := { program := "ytkdekdogfplbmaa", sum := "c7c7fc35c2553ade71b09715383e70d89a7f46b1f40d36e397c779f0b470e504", func := "lookout/lookoutlaw24.LedgerPattern", spec := "ledgerPattern", apart := false }
def LedgerPatternSaid : Prop := ledgerPatternRow.holds Try.pinned (OpenSpec.ofChange ledgerPatternSpec)

/-- ITS FALSE NEIGHBOUR: 'it returns false'. Refute it at one input. -/
def ledgerPatternWrong : ChangeSpec := { name := "ledgerPattern", fn := fun _ => fun
  | [d1, d2, d3] => { results := [.lit (.bool false)], args := [d1, d2, d3] }
  | _ => none }
def LedgerPatternWrongFalsely : Prop := ledgerPatternRow.holds Try.pinned (OpenSpec.ofChange ledgerPatternWrong)

/-- 'lookoutlaw24.LedgerPlays': WHATEVER THE INPUT: true; the input reads as it did. -/
def ledgerPlaysSpec : ChangeSpec := { name := "ledgerPlays", fn := fun _ => fun
  | [d1, d2] => { results := [.lit (.bool true)], args := [d1, d2] }
  | _ => none }
def ledgerPlaysRow : OpenClaim := { program := "ytkdekdogfplbmaa", sum := "c7c7fc35c2553ade71b09715383e70d89a7f46b1f40d36e397c779f0b470e504", func := "lookout/lookoutlaw24.LedgerPlays", spec := "ledgerPlays", apart := false }
def LedgerPlaysSaid : Prop := ledgerPlaysRow.holds Try.pinned (OpenSpec.ofChange ledgerPlaysSpec)

/-- ITS FALSE NEIGHBOUR: 'it returns false'. Refute it at one input. -/
def ledgerPlaysWrong : ChangeSpec := { name := "ledgerPlays", fn := fun _ => fun
  | [d1, d2] => { results := [.lit (.bool false)], args := [d1, d2] }
  | _ => none }
def LedgerPlaysWrongFalsely : Prop := ledgerPlaysRow.holds Try.pinned (OpenSpec.ofChange ledgerPlaysWrong)

/-- 'lookoutlaw24.LedgerLast': WHATEVER THE INPUT: true; the input reads as it did. -/
def ledgerLastSpec : ChangeSpec := { name := "ledgerLast", fn := fun _ => fun
  | [d1, d2] => { results := [.lit (.bool true)], args := [d1, d2] }
  | _ => none }
def ledgerLastRow : OpenClaim := { program := "ytkdekdogfplbmaa", sum := "c7c7fc35c2553ade71b09715383e70d89a7f46b1f40d36e397c779f0b470e504", func := "lookout/lookoutlaw24.LedgerLast", spec := "ledgerLast", apart := false }
def LedgerLastSaid : Prop := ledgerLastRow.holds Try.pinned (OpenSpec.ofChange ledgerLastSpec)

/-- ITS FALSE NEIGHBOUR: 'it returns false'. Refute it at one input. -/
def ledgerLastWrong : ChangeSpec := { name := "ledgerLast", fn := fun _ => fun
  | [d1, d2] => { results := [.lit (.bool false)], args := [d1, d2] }
  | _ => none }
def LedgerLastWrongFalsely : Prop := ledgerLastRow.holds Try.pinned (OpenSpec.ofChange ledgerLastWrong)

/-- 'lookoutlaw24.LedgerApart': WHATEVER THE INPUT: true; the input reads as it did. -/
def ledgerApartSpec : ChangeSpec := { name := "ledgerApart", fn := fun _ => fun
  | [d1, d2, d3] => { results := [.lit (.bool true)], args := [d1, d2, d3] }
  | _ => none }
def ledgerApartRow : OpenClaim := { program := "ytkdekdogfplbmaa", sum := "c7c7fc35c2553ade71b09715383e70d89a7f46b1f40d36e397c779f0b470e504", func := "lookout/lookoutlaw24.LedgerApart", spec := "ledgerApart", apart := false }
def LedgerApartSaid : Prop := ledgerApartRow.holds Try.pinned (OpenSpec.ofChange ledgerApartSpec)

/-- ITS FALSE NEIGHBOUR: 'it returns false'. Refute it at one input. -/
def ledgerApartWrong : ChangeSpec := { name := "ledgerApart", fn := fun _ => fun
  | [d1, d2, d3] => { results := [.lit (.bool false)], args := [d1, d2, d3] }
  | _ => none }
def LedgerApartWrongFalsely : Prop := ledgerApartRow.holds Try.pinned (OpenSpec.ofChange ledgerApartWrong)

/- THE SECOND FORM. 'bulk': how many values and letters a reading holds, each counted each time it is reached (what is shared counts as often as it is met; a slice's spare places count too). A statement '..UptoSaid' is the law's where the arguments, and the package variables that the reading takes, are together of bulk at most 1048576: NARROWER than '..Said'. Prove '..Said' where nothing that the law and all that it calls make is longer than what came in: it says more and counts as full. Else prove '..UptoSaid'. A law counts once. -/
mutual
def uptoBulk {H : Type} : DataW H → Nat
  | .lit (.string bytes) => bytes.length + 1
  | .lit _ => 1
  | .nil => 1
  | .ptr d => uptoBulk d + 1
  | .slice elems spare => uptoBulkAll elems + uptoBulkAll spare + 1
  | .agg parts => uptoBulkAll parts + 1
  | .iface _ d => uptoBulk d + 1
  | .map entries => uptoBulkEntries entries + 1
  | .held _ => 1
def uptoBulkAll {H : Type} : List (DataW H) → Nat
  | [] => 0
  | d :: r => uptoBulk d + uptoBulkAll r
def uptoBulkEntries {H : Type} : List (Lit × DataW H) → Nat
  | [] => 0
  | x :: r => uptoBulkEntry x + uptoBulkEntries r
def uptoBulkEntry {H : Type} : Lit × DataW H → Nat
  | (.string bytes, d) => bytes.length + uptoBulk d + 1
  | (_, d) => uptoBulk d + 1
 end
def uptoSmall : (H : Type) → List (DataW H) → Bool := fun _ ds => decide (uptoBulkAll ds ≤ 1048576)
def OpenSpec.upto (s : _root_.Go.ChangeSpec) : _root_.Go.OpenSpec := { _root_.Go.OpenSpec.ofChange s with cond := some uptoSmall }

/-- 'lookoutlaw22.MarkBound', WHERE WHAT IT READS IS OF BULK AT MOST 1048576: true; the input reads as it did. -/
def markBoundUptoRow : OpenClaim := { program := "ytkdekdogfplbmaa", sum := "c7c7fc35c2553ade71b09715383e70d89a7f46b1f40d36e397c779f0b470e504", func := "lookout/lookoutlaw22.MarkBound", spec := "markBound", unfollowed := true, recurses := true, apart := false, narrowed := true }
def MarkBoundUptoSaid : Prop := markBoundUptoRow.holds Try.pinned (OpenSpec.upto markBoundSpec)

/-- 'lookoutlaw22.MarkRaises', WHERE WHAT IT READS IS OF BULK AT MOST 1048576: true; the input reads as it did. -/
def markRaisesUptoRow : OpenClaim := { program := "ytkdekdogfplbmaa", sum := "c7c7fc35c2553ade71b09715383e70d89a7f46b1f40d36e397c779f0b470e504", func := "lookout/lookoutlaw22.MarkRaises", spec := "markRaises", unfollowed := true, recurses := true, apart := false, narrowed := true }
def MarkRaisesUptoSaid : Prop := markRaisesUptoRow.holds Try.pinned (OpenSpec.upto markRaisesSpec)

/-- 'lookoutlaw22.MarkLeast', WHERE WHAT IT READS IS OF BULK AT MOST 1048576: true; the input reads as it did. -/
def markLeastUptoRow : OpenClaim := { program := "ytkdekdogfplbmaa", sum := "c7c7fc35c2553ade71b09715383e70d89a7f46b1f40d36e397c779f0b470e504", func := "lookout/lookoutlaw22.MarkLeast", spec := "markLeast", unfollowed := true, recurses := true, apart := false, narrowed := true }
def MarkLeastUptoSaid : Prop := markLeastUptoRow.holds Try.pinned (OpenSpec.upto markLeastSpec)

/-- 'lookoutlaw22.MarkGrows', WHERE WHAT IT READS IS OF BULK AT MOST 1048576: true; the input reads as it did. -/
def markGrowsUptoRow : OpenClaim := { program := "ytkdekdogfplbmaa", sum := "c7c7fc35c2553ade71b09715383e70d89a7f46b1f40d36e397c779f0b470e504", func := "lookout/lookoutlaw22.MarkGrows", spec := "markGrows", unfollowed := true, recurses := true, apart := false, narrowed := true }
def MarkGrowsUptoSaid : Prop := markGrowsUptoRow.holds Try.pinned (OpenSpec.upto markGrowsSpec)

/-- 'lookoutlaw24.LedgerPattern', WHERE WHAT IT READS IS OF BULK AT MOST 1048576: true; the input reads as it did. -/
def ledgerPatternUptoRow : OpenClaim := { program := "ytkdekdogfplbmaa", sum := "c7c7fc35c2553ade71b09715383e70d89a7f46b1f40d36e397c779f0b470e504", func := "lookout/lookoutlaw24.LedgerPattern", spec := "ledgerPattern", apart := false, narrowed := true }
def LedgerPatternUptoSaid : Prop := ledgerPatternUptoRow.holds Try.pinned (OpenSpec.upto ledgerPatternSpec)

/-- 'lookoutlaw24.LedgerPlays', WHERE WHAT IT READS IS OF BULK AT MOST 1048576: true; the input reads as it did. -/
def ledgerPlaysUptoRow : OpenClaim := { program := "ytkdekdogfplbmaa", sum := "c7c7fc35c2553ade71b09715383e70d89a7f46b1f40d36e397c779f0b470e504", func := "lookout/lookoutlaw24.LedgerPlays", spec := "ledgerPlays", apart := false, narrowed := true }
def LedgerPlaysUptoSaid : Prop := ledgerPlaysUptoRow.holds Try.pinned (OpenSpec.upto ledgerPlaysSpec)

/-- 'lookoutlaw24.LedgerLast', WHERE WHAT IT READS IS OF BULK AT MOST 1048576: true; the input reads as it did. -/
def ledgerLastUptoRow : OpenClaim := { program := "ytkdekdogfplbmaa", sum := "c7c7fc35c2553ade71b09715383e70d89a7f46b1f40d36e397c779f0b470e504", func := "lookout/lookoutlaw24.LedgerLast", spec := "ledgerLast", apart := false, narrowed := true }
def LedgerLastUptoSaid : Prop := ledgerLastUptoRow.holds Try.pinned (OpenSpec.upto ledgerLastSpec)

/-- 'lookoutlaw24.LedgerApart', WHERE WHAT IT READS IS OF BULK AT MOST 1048576: true; the input reads as it did. -/
def ledgerApartUptoRow : OpenClaim := { program := "ytkdekdogfplbmaa", sum := "c7c7fc35c2553ade71b09715383e70d89a7f46b1f40d36e397c779f0b470e504", func := "lookout/lookoutlaw24.LedgerApart", spec := "ledgerApart", apart := false, narrowed := true }
def LedgerApartUptoSaid : Prop := ledgerApartUptoRow.holds Try.pinned (OpenSpec.upto ledgerApartSpec)

end Rows
end Go.Proofs.Ytkdekdogfplbmaa
