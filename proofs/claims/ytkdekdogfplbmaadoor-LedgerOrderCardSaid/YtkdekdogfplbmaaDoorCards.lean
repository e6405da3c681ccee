/-
  DERIVED. GIVEN WITH THE SEED: THE CARDS: each row of YtkdekdogfplbmaaDoorRows.lean that lists a variable, with what it lists TIED to the program's text (the seventh form; the later family's looks); each row that meets fmt, with fmt's text TOLD by the authors' own Lean function (tested against real Go, not proved from fmt's source: count such statements apart). THE CARD IS WHAT COUNTS. Prove the row's statement (the work); the ties are given (YtkdekdogfplbmaaDoorTie.lean); close each card by the builder's one call (the guide's Derived/Test/ToyasCard.lean, 'card_holds'). Laid BY PROGRAM, IN A SANDBOX (cutbox-door.mjs). By AI agents, Wed Nov 11 2026. No macro, syntax, notation, axiom, sorry.
-/
import Derived.Test.YtkdekdogfplbmaaDoorRows
import GoSem.ClaimSeven
namespace Go.Proofs.YtkdekdogfplbmaaDoor
namespace Rows

/-- THE TIED CARD OF 'lookoutlaw24.LedgerOrder'. -/
def ledgerOrderCard : Claim7 := { stood := { row := ledgerOrderRow, standIns := [], harness := (true, "a40497986d73f82a796c79a9badce88a778b6c1b297f6e0e456975fd8c12f593"), looks := false }, kinds := [], alts := [], laidByText := true, laidKinds := [.data], laidTests := true, laidLooks := .later }
def LedgerOrderCardSaid : Prop := Claim7.holds Tryd.pinned (.plain (OpenSpec.ofChange ledgerOrderSpec)) ledgerOrderCard

/-- THE SECOND FORM's CARD OF 'lookoutlaw24.LedgerOrder'. -/
def ledgerOrderUptoCard : Claim7 := { stood := { row := ledgerOrderUptoRow, standIns := [], harness := (true, "a40497986d73f82a796c79a9badce88a778b6c1b297f6e0e456975fd8c12f593"), looks := false }, kinds := [], alts := [], laidByText := true, laidKinds := [.data], laidTests := true, laidLooks := .later }
def LedgerOrderUptoCardSaid : Prop := Claim7.holds Tryd.pinned (.plain (OpenSpec.upto ledgerOrderSpec)) ledgerOrderUptoCard
end Rows
end Go.Proofs.YtkdekdogfplbmaaDoor
