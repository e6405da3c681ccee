/-
  DERIVED. GIVEN WITH THE SEED: THE CARDS: each row of YtfphffkgacajdaaDoorRows.lean that lists a variable, with what it lists TIED to the program's text (the seventh form; the later family's looks); each row that meets fmt, with fmt's text TOLD by the authors' own Lean function (tested against real Go, not proved from fmt's source: count such statements apart). THE CARD IS WHAT COUNTS. Prove the row's statement (the work); the ties are given (YtfphffkgacajdaaDoorTie.lean); close each card by the builder's one call (the guide's Derived/Test/ToyasCard.lean, 'card_holds'). Laid BY PROGRAM, IN A SANDBOX (cutbox-door.mjs). By AI agents, Wed Nov 11 2026. No macro, syntax, notation, axiom, sorry.
-/
import Derived.Test.YtfphffkgacajdaaDoorRows
import GoSem.ClaimSeven
namespace Go.Proofs.YtfphffkgacajdaaDoor
namespace Rows

/-- THE TIED CARD OF 'lookoutlaw06.MessagePuts'. -/
def messagePutsCard : Claim7 := { stood := { row := messagePutsRow, standIns := [], harness := (true, "621af2218bab8d5a5132530182e258423b4ddd1875d8dd02ffe58caf1c1f4940"), looks := false }, kinds := [], alts := [], laidByText := true, laidKinds := [.data], laidTests := true, laidLooks := .later }
def MessagePutsCardSaid : Prop := Claim7.holds Tryd.pinned (.plain (OpenSpec.ofChange messagePutsSpec)) messagePutsCard

/-- THE TIED CARD OF 'lookoutlaw06.MessageTakes'. -/
def messageTakesCard : Claim7 := { stood := { row := messageTakesRow, standIns := [], harness := (true, "621af2218bab8d5a5132530182e258423b4ddd1875d8dd02ffe58caf1c1f4940"), looks := false }, kinds := [], alts := [], laidByText := true, laidKinds := [.data], laidTests := true, laidLooks := .later }
def MessageTakesCardSaid : Prop := Claim7.holds Tryd.pinned (.plain (OpenSpec.ofChange messageTakesSpec)) messageTakesCard

/-- THE TIED CARD OF 'lookoutlaw06.MessageBack'. -/
def messageBackCard : Claim7 := { stood := { row := messageBackRow, standIns := [], harness := (true, "621af2218bab8d5a5132530182e258423b4ddd1875d8dd02ffe58caf1c1f4940"), looks := false }, kinds := [], alts := [], laidByText := true, laidKinds := [.data], laidTests := true, laidLooks := .later }
def MessageBackCardSaid : Prop := Claim7.holds Tryd.pinned (.plain (OpenSpec.ofChange messageBackSpec)) messageBackCard

/-- THE TIED CARD OF 'lookoutlaw06.MessageCut'. -/
def messageCutCard : Claim7 := { stood := { row := messageCutRow, standIns := [], harness := (true, "621af2218bab8d5a5132530182e258423b4ddd1875d8dd02ffe58caf1c1f4940"), looks := false }, kinds := [], alts := [], laidByText := true, laidKinds := [.data], laidTests := true, laidLooks := .later }
def MessageCutCardSaid : Prop := Claim7.holds Tryd.pinned (.plain (OpenSpec.ofChange messageCutSpec)) messageCutCard

/-- THE TIED CARD OF 'lookoutlaw06.MessageFrames'. -/
def messageFramesCard : Claim7 := { stood := { row := messageFramesRow, standIns := [], harness := (true, "621af2218bab8d5a5132530182e258423b4ddd1875d8dd02ffe58caf1c1f4940"), looks := false }, kinds := [], alts := [], laidByText := true, laidKinds := [.data], laidTests := true, laidLooks := .later }
def MessageFramesCardSaid : Prop := Claim7.holds Tryd.pinned (.plain (OpenSpec.ofChange messageFramesSpec)) messageFramesCard

/-- THE TIED CARD OF 'lookoutlaw07.RecordPuts'. -/
def recordPutsCard : Claim7 := { stood := { row := recordPutsRow, standIns := [], harness := (true, "621af2218bab8d5a5132530182e258423b4ddd1875d8dd02ffe58caf1c1f4940"), looks := false }, kinds := [], alts := [], laidByText := true, laidKinds := [.data, .data, .data, .data, .data], laidTests := true, laidLooks := .later }
def RecordPutsCardSaid : Prop := Claim7.holds Tryd.pinned (.plain (OpenSpec.ofChange recordPutsSpec)) recordPutsCard

/-- THE TIED CARD OF 'lookoutlaw07.RecordTakes'. -/
def recordTakesCard : Claim7 := { stood := { row := recordTakesRow, standIns := [], harness := (true, "621af2218bab8d5a5132530182e258423b4ddd1875d8dd02ffe58caf1c1f4940"), looks := false }, kinds := [], alts := [], laidByText := true, laidKinds := [.data, .data, .data, .data, .data], laidTests := true, laidLooks := .later }
def RecordTakesCardSaid : Prop := Claim7.holds Tryd.pinned (.plain (OpenSpec.ofChange recordTakesSpec)) recordTakesCard

/-- THE TIED CARD OF 'lookoutlaw07.RecordAll'. -/
def recordAllCard : Claim7 := { stood := { row := recordAllRow, standIns := [], harness := (true, "621af2218bab8d5a5132530182e258423b4ddd1875d8dd02ffe58caf1c1f4940"), looks := false }, kinds := [], alts := [], laidByText := true, laidKinds := [.data, .data, .data, .data, .data], laidTests := true, laidLooks := .later }
def RecordAllCardSaid : Prop := Claim7.holds Tryd.pinned (.plain (OpenSpec.ofChange recordAllSpec)) recordAllCard

/-- THE TIED CARD OF 'lookoutlaw07.RecordBack'. -/
def recordBackCard : Claim7 := { stood := { row := recordBackRow, standIns := [], harness := (true, "621af2218bab8d5a5132530182e258423b4ddd1875d8dd02ffe58caf1c1f4940"), looks := false }, kinds := [], alts := [], laidByText := true, laidKinds := [.data, .data, .data, .data, .data], laidTests := true, laidLooks := .later }
def RecordBackCardSaid : Prop := Claim7.holds Tryd.pinned (.plain (OpenSpec.ofChange recordBackSpec)) recordBackCard

/-- THE TIED CARD OF 'lookoutlaw07.RecordOne'. -/
def recordOneCard : Claim7 := { stood := { row := recordOneRow, standIns := [], harness := (true, "621af2218bab8d5a5132530182e258423b4ddd1875d8dd02ffe58caf1c1f4940"), looks := false }, kinds := [], alts := [], laidByText := true, laidKinds := [.data, .data, .data, .data, .data], laidTests := true, laidLooks := .later }
def RecordOneCardSaid : Prop := Claim7.holds Tryd.pinned (.plain (OpenSpec.ofChange recordOneSpec)) recordOneCard

/-- THE TIED CARD OF 'lookoutlaw07.RecordApart'. -/
def recordApartCard : Claim7 := { stood := { row := recordApartRow, standIns := [], harness := (true, "621af2218bab8d5a5132530182e258423b4ddd1875d8dd02ffe58caf1c1f4940"), looks := false }, kinds := [], alts := [], laidByText := true, laidKinds := [.data, .data, .data, .data, .data], laidTests := true, laidLooks := .later }
def RecordApartCardSaid : Prop := Claim7.holds Tryd.pinned (.plain (OpenSpec.ofChange recordApartSpec)) recordApartCard

/-- THE SECOND FORM's CARD OF 'lookoutlaw06.MessagePuts'. -/
def messagePutsUptoCard : Claim7 := { stood := { row := messagePutsUptoRow, standIns := [], harness := (true, "621af2218bab8d5a5132530182e258423b4ddd1875d8dd02ffe58caf1c1f4940"), looks := false }, kinds := [], alts := [], laidByText := true, laidKinds := [.data], laidTests := true, laidLooks := .later }
def MessagePutsUptoCardSaid : Prop := Claim7.holds Tryd.pinned (.plain (OpenSpec.upto messagePutsSpec)) messagePutsUptoCard

/-- THE SECOND FORM's CARD OF 'lookoutlaw06.MessageTakes'. -/
def messageTakesUptoCard : Claim7 := { stood := { row := messageTakesUptoRow, standIns := [], harness := (true, "621af2218bab8d5a5132530182e258423b4ddd1875d8dd02ffe58caf1c1f4940"), looks := false }, kinds := [], alts := [], laidByText := true, laidKinds := [.data], laidTests := true, laidLooks := .later }
def MessageTakesUptoCardSaid : Prop := Claim7.holds Tryd.pinned (.plain (OpenSpec.upto messageTakesSpec)) messageTakesUptoCard

/-- THE SECOND FORM's CARD OF 'lookoutlaw06.MessageBack'. -/
def messageBackUptoCard : Claim7 := { stood := { row := messageBackUptoRow, standIns := [], harness := (true, "621af2218bab8d5a5132530182e258423b4ddd1875d8dd02ffe58caf1c1f4940"), looks := false }, kinds := [], alts := [], laidByText := true, laidKinds := [.data], laidTests := true, laidLooks := .later }
def MessageBackUptoCardSaid : Prop := Claim7.holds Tryd.pinned (.plain (OpenSpec.upto messageBackSpec)) messageBackUptoCard

/-- THE SECOND FORM's CARD OF 'lookoutlaw06.MessageCut'. -/
def messageCutUptoCard : Claim7 := { stood := { row := messageCutUptoRow, standIns := [], harness := (true, "621af2218bab8d5a5132530182e258423b4ddd1875d8dd02ffe58caf1c1f4940"), looks := false }, kinds := [], alts := [], laidByText := true, laidKinds := [.data], laidTests := true, laidLooks := .later }
def MessageCutUptoCardSaid : Prop := Claim7.holds Tryd.pinned (.plain (OpenSpec.upto messageCutSpec)) messageCutUptoCard

/-- THE SECOND FORM's CARD OF 'lookoutlaw06.MessageFrames'. -/
def messageFramesUptoCard : Claim7 := { stood := { row := messageFramesUptoRow, standIns := [], harness := (true, "621af2218bab8d5a5132530182e258423b4ddd1875d8dd02ffe58caf1c1f4940"), looks := false }, kinds := [], alts := [], laidByText := true, laidKinds := [.data], laidTests := true, laidLooks := .later }
def MessageFramesUptoCardSaid : Prop := Claim7.holds Tryd.pinned (.plain (OpenSpec.upto messageFramesSpec)) messageFramesUptoCard

/-- THE SECOND FORM's CARD OF 'lookoutlaw07.RecordPuts'. -/
def recordPutsUptoCard : Claim7 := { stood := { row := recordPutsUptoRow, standIns := [], harness := (true, "621af2218bab8d5a5132530182e258423b4ddd1875d8dd02ffe58caf1c1f4940"), looks := false }, kinds := [], alts := [], laidByText := true, laidKinds := [.data, .data, .data, .data, .data], laidTests := true, laidLooks := .later }
def RecordPutsUptoCardSaid : Prop := Claim7.holds Tryd.pinned (.plain (OpenSpec.upto recordPutsSpec)) recordPutsUptoCard

/-- THE SECOND FORM's CARD OF 'lookoutlaw07.RecordTakes'. -/
def recordTakesUptoCard : Claim7 := { stood := { row := recordTakesUptoRow, standIns := [], harness := (true, "621af2218bab8d5a5132530182e258423b4ddd1875d8dd02ffe58caf1c1f4940"), looks := false }, kinds := [], alts := [], laidByText := true, laidKinds := [.data, .data, .data, .data, .data], laidTests := true, laidLooks := .later }
def RecordTakesUptoCardSaid : Prop := Claim7.holds Tryd.pinned (.plain (OpenSpec.upto recordTakesSpec)) recordTakesUptoCard

/-- THE SECOND FORM's CARD OF 'lookoutlaw07.RecordAll'. -/
def recordAllUptoCard : Claim7 := { stood := { row := recordAllUptoRow, standIns := [], harness := (true, "621af2218bab8d5a5132530182e258423b4ddd1875d8dd02ffe58caf1c1f4940"), looks := false }, kinds := [], alts := [], laidByText := true, laidKinds := [.data, .data, .data, .data, .data], laidTests := true, laidLooks := .later }
def RecordAllUptoCardSaid : Prop := Claim7.holds Tryd.pinned (.plain (OpenSpec.upto recordAllSpec)) recordAllUptoCard

/-- THE SECOND FORM's CARD OF 'lookoutlaw07.RecordBack'. -/
def recordBackUptoCard : Claim7 := { stood := { row := recordBackUptoRow, standIns := [], harness := (true, "621af2218bab8d5a5132530182e258423b4ddd1875d8dd02ffe58caf1c1f4940"), looks := false }, kinds := [], alts := [], laidByText := true, laidKinds := [.data, .data, .data, .data, .data], laidTests := true, laidLooks := .later }
def RecordBackUptoCardSaid : Prop := Claim7.holds Tryd.pinned (.plain (OpenSpec.upto recordBackSpec)) recordBackUptoCard

/-- THE SECOND FORM's CARD OF 'lookoutlaw07.RecordOne'. -/
def recordOneUptoCard : Claim7 := { stood := { row := recordOneUptoRow, standIns := [], harness := (true, "621af2218bab8d5a5132530182e258423b4ddd1875d8dd02ffe58caf1c1f4940"), looks := false }, kinds := [], alts := [], laidByText := true, laidKinds := [.data, .data, .data, .data, .data], laidTests := true, laidLooks := .later }
def RecordOneUptoCardSaid : Prop := Claim7.holds Tryd.pinned (.plain (OpenSpec.upto recordOneSpec)) recordOneUptoCard

/-- THE SECOND FORM's CARD OF 'lookoutlaw07.RecordApart'. -/
def recordApartUptoCard : Claim7 := { stood := { row := recordApartUptoRow, standIns := [], harness := (true, "621af2218bab8d5a5132530182e258423b4ddd1875d8dd02ffe58caf1c1f4940"), looks := false }, kinds := [], alts := [], laidByText := true, laidKinds := [.data, .data, .data, .data, .data], laidTests := true, laidLooks := .later }
def RecordApartUptoCardSaid : Prop := Claim7.holds Tryd.pinned (.plain (OpenSpec.upto recordApartSpec)) recordApartUptoCard
end Rows
end Go.Proofs.YtfphffkgacajdaaDoor
