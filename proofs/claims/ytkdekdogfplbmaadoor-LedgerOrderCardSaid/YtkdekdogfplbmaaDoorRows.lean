/-
  NARROWER THAN 'FOR EVERY INPUT', by the rows' own cells (each row's printed sentence says how): LedgerOrder: laid.
  DERIVED. THE GIVEN ROWS OF THIS SEAT. 1 by the template 'for every input the law returns true; each argument reads behind the call as it read before'; 0 by the template 'total and deterministic' (their statements: YtkdekdogfplbmaaDoorTotals.lean).
  GIVEN WITH THE SEED: the statements are not yours to turn. If you find one false, say at which input.
  Laid BY PROGRAM, IN A SANDBOX (cutbox-rows.mjs): the forced cells as the released guide's own fill.sh prints them over the translation cafca26bab1d82fb… (all of the seat's roots in one cut). By AI agents, Wed Nov 11 2026. No macro, syntax, notation, axiom, sorry.
-/
import Derived.Test.YtkdekdogfplbmaaDoorChecked
import GoSem.Claim
import GoSem.ClaimJoined
import GoSem.ClaimMapViews
import Derived.JoinedTies
import Derived.KernelRfl
namespace Go.Proofs.YtkdekdogfplbmaaDoor
/- THE CELL 'sum', in the pinned program and in every row, IS THE sha256 OF THE DUMP (.gsa) THAT YtkdekdogfplbmaaDoorProg.lean LOADS. Nothing in Lean hashes anything: it is a label: what it is worth is what the hold of that sum in a sandbox is worth. -/
noncomputable def Tryd.pinned : Pinned := { name := "ytkdekdogfplbmaadoor", sum := "cafca26bab1d82fb969ab3e7fde963e35c9b5244cde840046fac10f0593b3232", checked := Tryd.checked }
namespace Rows
def none {H : Type} : Left H := { results := [], args := [] }

/- WHAT THE LISTED PACKAGE-LEVEL VARIABLES READ AS WHEN THE CALL BEGINS. Each datum BY PROGRAM (the guide's laid-datum.mjs) off the statement by which the dump's own 'gosem.cut.vars' lays the variable. In a bare row this is a premise. The card (YtkdekdogfplbmaaDoorCards.lean) ties it to the program's text. -/
def laid_lookout_record_forms {H : Type} : DataW H := .agg [.agg [.lit (.string [109, 97, 108, 102, 111, 114, 109, 101, 100]), .lit (.string [115, 110])], .agg [.lit (.string [119, 114, 111, 110, 103]), .lit (.string [115, 99])], .agg [.lit (.string [114, 101, 102, 117, 115, 101, 100]), .lit (.string [115, 99])], .agg [.lit (.string [114, 101, 106, 101, 99, 116, 101, 100]), .lit (.string [115, 113, 97, 99])], .agg [.lit (.string [115, 104, 101, 100]), .lit (.string [115, 113, 97])], .agg [.lit (.string [108, 97, 116, 101]), .lit (.string [115, 113, 97])], .agg [.lit (.string [97, 99, 99, 101, 112, 116, 101, 100]), .lit (.string [115, 113, 97])], .agg [.lit (.string [103, 97, 112]), .lit (.string [115, 113])], .agg [.lit (.string [115, 117, 115, 112, 101, 99, 116]), .lit (.string [115, 97])], .agg [.lit (.string [114, 101, 106, 111, 105, 110]), .lit (.string [115])], .agg [.lit (.string [111, 118, 101, 114, 102, 108, 111, 119]), .lit (.string [99, 97])], .agg [.lit (.string [112, 114, 111, 118, 105, 115, 105, 111, 110, 97, 108]), .lit (.string [97, 121])], .agg [.lit (.string [114, 101, 116, 114, 97, 99, 116, 105, 111, 110]), .lit (.string [97, 121])], .agg [.lit (.string [102, 105, 110, 97, 108]), .lit (.string [97, 121])], .agg [.lit (.string [108, 97, 116, 101, 110, 99, 121]), .lit (.string [97, 110])], .agg [.lit (.string [115, 117, 109, 109, 97, 114, 121]), .lit (.string [116])]]

/-- 'lookoutlaw24.LedgerOrder': WHATEVER THE INPUT: true; the input reads as it did. -/
def ledgerOrderSpec : ChangeSpec := { name := "ledgerOrder", fn := fun _ => fun
  | [d1, d2] => { results := [.lit (.bool true)], args := [d1, d2] }
  | _ => none }
def ledgerOrderRow : OpenClaim := { program := "ytkdekdogfplbmaadoor", sum := "cafca26bab1d82fb969ab3e7fde963e35c9b5244cde840046fac10f0593b3232", func := "lookout/lookoutlaw24.LedgerOrder", spec := "ledgerOrder", named := ["lookout/record.forms"], apart := false, laid := [("lookout/record.forms", laid_lookout_record_forms)] }
def LedgerOrderSaid : Prop := ledgerOrderRow.holds Tryd.pinned (OpenSpec.ofChange ledgerOrderSpec)

/-- ITS FALSE NEIGHBOUR: 'it returns false'. Refute it at one input. -/
def ledgerOrderWrong : ChangeSpec := { name := "ledgerOrder", fn := fun _ => fun
  | [d1, d2] => { results := [.lit (.bool false)], args := [d1, d2] }
  | _ => none }
def LedgerOrderWrongFalsely : Prop := ledgerOrderRow.holds Tryd.pinned (OpenSpec.ofChange ledgerOrderWrong)

/- THE SECOND FORM. 'bulk': how many values and letters a reading holds, each counted each time it is reached (what is shared counts as often as it is met; a slice's spare places count too). A statement '..UptoSaid' is the law's where the arguments, and the package variables that the reading takes, are together of bulk at most 1048576: NARROWER than '..Said'. Prove '..Said' where nothing that the law and all that it calls make is longer than what came in: it says more and counts as full. Else prove '..UptoSaid'. A law counts once. -/
mutual
def uptoBulk {H : Type} : DataW H → Nat
  | .lit (.string bytes) => bytes.length + 1
  | .lit _ => 1
  | .nil => 1
  | .ptr d => uptoBulk d + 1
  | .slice elems spare => uptoBulkAll elems + uptoBulkAll spare + 1
  | .agg parts => uptoBulkAll parts + 1
  | .iface _ d => uptoBulk d + 1
  | .map entries => uptoBulkEntries entries + 1
  | .held _ => 1
def uptoBulkAll {H : Type} : List (DataW H) → Nat
  | [] => 0
  | d :: r => uptoBulk d + uptoBulkAll r
def uptoBulkEntries {H : Type} : List (Lit × DataW H) → Nat
  | [] => 0
  | x :: r => uptoBulkEntry x + uptoBulkEntries r
def uptoBulkEntry {H : Type} : Lit × DataW H → Nat
  | (.string bytes, d) => bytes.length + uptoBulk d + 1
  | (_, d) => uptoBulk d + 1
 end
def uptoSmall : (H : Type) → List (DataW H) → Bool := fun _ ds => decide (uptoBulkAll ds ≤ 1048576)
def OpenSpec.upto (s : _root_.Go.ChangeSpec) : _root_.Go.OpenSpec := { _root_.Go.OpenSpec.ofChange s with cond := some uptoSmall }

/-- 'lookoutlaw24.LedgerOrder', WHERE WHAT IT READS IS OF BULK AT MOST 1048576: true; the input reads as it did. -/
def ledgerOrderUptoRow : OpenClaim := { program := "ytkdekdogfplbmaadoor", sum := "cafca26bab1d82fb969ab3e7fde963e35c9b5244cde840046fac10f0593b3232", func := "lookout/lookoutlaw24.LedgerOrder", spec := "ledgerOrder", named := ["lookout/record.forms"], apart := false, laid := [("lookout/record.forms", laid_lookout_record_forms)], narrowed := true }
def LedgerOrderUptoSaid : Prop := ledgerOrderUptoRow.holds Tryd.pinned (OpenSpec.upto ledgerOrderSpec)

end Rows
end Go.Proofs.YtkdekdogfplbmaaDoor
