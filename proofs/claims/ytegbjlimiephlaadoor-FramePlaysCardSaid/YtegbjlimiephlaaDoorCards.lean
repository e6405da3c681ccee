/-
  DERIVED. GIVEN WITH THE SEED: THE CARDS: each row of YtegbjlimiephlaaDoorRows.lean that lists a variable, with what it lists TIED to the program's text (the seventh form; the later family's looks); each row that meets fmt, with fmt's text TOLD by the authors' own Lean function (tested against real Go, not proved from fmt's source: count such statements apart). THE CARD IS WHAT COUNTS. Prove the row's statement (the work); the ties are given (YtegbjlimiephlaaDoorTie.lean); close each card by the builder's one call (the guide's Derived/Test/ToyasCard.lean, 'card_holds'). Laid BY PROGRAM, IN A SANDBOX (cutbox-door.mjs). By AI agents, Wed Nov 11 2026. No macro, syntax, notation, axiom, sorry.
-/
import Derived.Test.YtegbjlimiephlaaDoorRows
import GoSem.ClaimSeven
namespace Go.Proofs.YtegbjlimiephlaaDoor
namespace Rows

/-- THE TIED CARD OF 'lookoutlaw04.FramePuts'. -/
def framePutsCard : Claim7 := { stood := { row := framePutsRow, standIns := [], harness := (true, "76520d757ddbba16428485acacb8e1577025bb6aa4850a791c70b1d1bef919b2"), looks := false }, kinds := [], alts := [], laidByText := true, laidKinds := [.data], laidTests := true, laidLooks := .later }
def FramePutsCardSaid : Prop := Claim7.holds Tryd.pinned (.plain (OpenSpec.ofChange framePutsSpec)) framePutsCard

/-- THE TIED CARD OF 'lookoutlaw04.FramePlays'. -/
def framePlaysCard : Claim7 := { stood := { row := framePlaysRow, standIns := [], harness := (true, "76520d757ddbba16428485acacb8e1577025bb6aa4850a791c70b1d1bef919b2"), looks := false }, kinds := [], alts := [], laidByText := true, laidKinds := [.data], laidTests := true, laidLooks := .later }
def FramePlaysCardSaid : Prop := Claim7.holds Tryd.pinned (.plain (OpenSpec.ofChange framePlaysSpec)) framePlaysCard

/-- THE TIED CARD OF 'lookoutlaw04.FramePieces'. -/
def framePiecesCard : Claim7 := { stood := { row := framePiecesRow, standIns := [], harness := (true, "76520d757ddbba16428485acacb8e1577025bb6aa4850a791c70b1d1bef919b2"), looks := false }, kinds := [], alts := [], laidByText := true, laidKinds := [.data], laidTests := true, laidLooks := .later }
def FramePiecesCardSaid : Prop := Claim7.holds Tryd.pinned (.plain (OpenSpec.ofChange framePiecesSpec)) framePiecesCard

/-- THE TIED CARD OF 'lookoutlaw04.FrameBack'. -/
def frameBackCard : Claim7 := { stood := { row := frameBackRow, standIns := [], harness := (true, "76520d757ddbba16428485acacb8e1577025bb6aa4850a791c70b1d1bef919b2"), looks := false }, kinds := [], alts := [], laidByText := true, laidKinds := [.data], laidTests := true, laidLooks := .later }
def FrameBackCardSaid : Prop := Claim7.holds Tryd.pinned (.plain (OpenSpec.ofChange frameBackSpec)) frameBackCard

/-- THE TIED CARD OF 'lookoutlaw04.FrameAfter'. -/
def frameAfterCard : Claim7 := { stood := { row := frameAfterRow, standIns := [], harness := (true, "76520d757ddbba16428485acacb8e1577025bb6aa4850a791c70b1d1bef919b2"), looks := false }, kinds := [], alts := [], laidByText := true, laidKinds := [.data], laidTests := true, laidLooks := .later }
def FrameAfterCardSaid : Prop := Claim7.holds Tryd.pinned (.plain (OpenSpec.ofChange frameAfterSpec)) frameAfterCard

/-- THE TIED CARD OF 'lookoutlaw04.FrameCounts'. -/
def frameCountsCard : Claim7 := { stood := { row := frameCountsRow, standIns := [], harness := (true, "76520d757ddbba16428485acacb8e1577025bb6aa4850a791c70b1d1bef919b2"), looks := false }, kinds := [], alts := [], laidByText := true, laidKinds := [.data], laidTests := true, laidLooks := .later }
def FrameCountsCardSaid : Prop := Claim7.holds Tryd.pinned (.plain (OpenSpec.ofChange frameCountsSpec)) frameCountsCard

/-- THE TIED CARD OF 'lookoutlaw04.FrameSpoilt'. -/
def frameSpoiltCard : Claim7 := { stood := { row := frameSpoiltRow, standIns := [], harness := (true, "76520d757ddbba16428485acacb8e1577025bb6aa4850a791c70b1d1bef919b2"), looks := false }, kinds := [], alts := [], laidByText := true, laidKinds := [.data], laidTests := true, laidLooks := .later }
def FrameSpoiltCardSaid : Prop := Claim7.holds Tryd.pinned (.plain (OpenSpec.ofChange frameSpoiltSpec)) frameSpoiltCard

/-- THE TIED CARD OF 'lookoutlaw04.FrameItems'. -/
def frameItemsCard : Claim7 := { stood := { row := frameItemsRow, standIns := [], harness := (true, "76520d757ddbba16428485acacb8e1577025bb6aa4850a791c70b1d1bef919b2"), looks := false }, kinds := [], alts := [], laidByText := true, laidKinds := [.data], laidTests := true, laidLooks := .later }
def FrameItemsCardSaid : Prop := Claim7.holds Tryd.pinned (.plain (OpenSpec.ofChange frameItemsSpec)) frameItemsCard

/-- THE SECOND FORM's CARD OF 'lookoutlaw04.FramePuts'. -/
def framePutsUptoCard : Claim7 := { stood := { row := framePutsUptoRow, standIns := [], harness := (true, "76520d757ddbba16428485acacb8e1577025bb6aa4850a791c70b1d1bef919b2"), looks := false }, kinds := [], alts := [], laidByText := true, laidKinds := [.data], laidTests := true, laidLooks := .later }
def FramePutsUptoCardSaid : Prop := Claim7.holds Tryd.pinned (.plain (OpenSpec.upto framePutsSpec)) framePutsUptoCard

/-- THE SECOND FORM's CARD OF 'lookoutlaw04.FramePlays'. -/
def framePlaysUptoCard : Claim7 := { stood := { row := framePlaysUptoRow, standIns := [], harness := (true, "76520d757ddbba16428485acacb8e1577025bb6aa4850a791c70b1d1bef919b2"), looks := false }, kinds := [], alts := [], laidByText := true, laidKinds := [.data], laidTests := true, laidLooks := .later }
def FramePlaysUptoCardSaid : Prop := Claim7.holds Tryd.pinned (.plain (OpenSpec.upto framePlaysSpec)) framePlaysUptoCard

/-- THE SECOND FORM's CARD OF 'lookoutlaw04.FramePieces'. -/
def framePiecesUptoCard : Claim7 := { stood := { row := framePiecesUptoRow, standIns := [], harness := (true, "76520d757ddbba16428485acacb8e1577025bb6aa4850a791c70b1d1bef919b2"), looks := false }, kinds := [], alts := [], laidByText := true, laidKinds := [.data], laidTests := true, laidLooks := .later }
def FramePiecesUptoCardSaid : Prop := Claim7.holds Tryd.pinned (.plain (OpenSpec.upto framePiecesSpec)) framePiecesUptoCard

/-- THE SECOND FORM's CARD OF 'lookoutlaw04.FrameBack'. -/
def frameBackUptoCard : Claim7 := { stood := { row := frameBackUptoRow, standIns := [], harness := (true, "76520d757ddbba16428485acacb8e1577025bb6aa4850a791c70b1d1bef919b2"), looks := false }, kinds := [], alts := [], laidByText := true, laidKinds := [.data], laidTests := true, laidLooks := .later }
def FrameBackUptoCardSaid : Prop := Claim7.holds Tryd.pinned (.plain (OpenSpec.upto frameBackSpec)) frameBackUptoCard

/-- THE SECOND FORM's CARD OF 'lookoutlaw04.FrameAfter'. -/
def frameAfterUptoCard : Claim7 := { stood := { row := frameAfterUptoRow, standIns := [], harness := (true, "76520d757ddbba16428485acacb8e1577025bb6aa4850a791c70b1d1bef919b2"), looks := false }, kinds := [], alts := [], laidByText := true, laidKinds := [.data], laidTests := true, laidLooks := .later }
def FrameAfterUptoCardSaid : Prop := Claim7.holds Tryd.pinned (.plain (OpenSpec.upto frameAfterSpec)) frameAfterUptoCard

/-- THE SECOND FORM's CARD OF 'lookoutlaw04.FrameCounts'. -/
def frameCountsUptoCard : Claim7 := { stood := { row := frameCountsUptoRow, standIns := [], harness := (true, "76520d757ddbba16428485acacb8e1577025bb6aa4850a791c70b1d1bef919b2"), looks := false }, kinds := [], alts := [], laidByText := true, laidKinds := [.data], laidTests := true, laidLooks := .later }
def FrameCountsUptoCardSaid : Prop := Claim7.holds Tryd.pinned (.plain (OpenSpec.upto frameCountsSpec)) frameCountsUptoCard

/-- THE SECOND FORM's CARD OF 'lookoutlaw04.FrameSpoilt'. -/
def frameSpoiltUptoCard : Claim7 := { stood := { row := frameSpoiltUptoRow, standIns := [], harness := (true, "76520d757ddbba16428485acacb8e1577025bb6aa4850a791c70b1d1bef919b2"), looks := false }, kinds := [], alts := [], laidByText := true, laidKinds := [.data], laidTests := true, laidLooks := .later }
def FrameSpoiltUptoCardSaid : Prop := Claim7.holds Tryd.pinned (.plain (OpenSpec.upto frameSpoiltSpec)) frameSpoiltUptoCard

/-- THE SECOND FORM's CARD OF 'lookoutlaw04.FrameItems'. -/
def frameItemsUptoCard : Claim7 := { stood := { row := frameItemsUptoRow, standIns := [], harness := (true, "76520d757ddbba16428485acacb8e1577025bb6aa4850a791c70b1d1bef919b2"), looks := false }, kinds := [], alts := [], laidByText := true, laidKinds := [.data], laidTests := true, laidLooks := .later }
def FrameItemsUptoCardSaid : Prop := Claim7.holds Tryd.pinned (.plain (OpenSpec.upto frameItemsSpec)) frameItemsUptoCard
end Rows
end Go.Proofs.YtegbjlimiephlaaDoor
