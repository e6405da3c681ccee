/-
  DERIVED. GIVEN WITH THE SEED: THE CARDS: each row of YtdmpopdacbdnlaaDoorRows.lean that lists a variable, with what it lists TIED to the program's text (the seventh form; the later family's looks); each row that meets fmt, with fmt's text TOLD by the authors' own Lean function (tested against real Go, not proved from fmt's source: count such statements apart). THE CARD IS WHAT COUNTS. Prove the row's statement (the work); the ties are given (YtdmpopdacbdnlaaDoorTie.lean); close each card by the builder's one call (the guide's Derived/Test/ToyasCard.lean, 'card_holds'). Laid BY PROGRAM, IN A SANDBOX (cutbox-door.mjs). By AI agents, Wed Nov 11 2026. No macro, syntax, notation, axiom, sorry.
-/
import Derived.Test.YtdmpopdacbdnlaaDoorRows
import GoSem.ClaimSeven
namespace Go.Proofs.YtdmpopdacbdnlaaDoor
namespace Rows

/-- THE TIED CARD OF 'lookoutlaw04.FrameItems'. -/
def frameItemsCard : Claim7 := { stood := { row := frameItemsRow, standIns := [], harness := (true, "38cc61ff4fd0a8d420b34f02cbe74a931c8dc9cb8671002a4b8de3d056da0428"), looks := false }, kinds := [], alts := [], laidByText := true, laidKinds := [.data], laidTests := true, laidLooks := .later }
def FrameItemsCardSaid : Prop := Claim7.holds Tryd.pinned (.plain (OpenSpec.ofChange frameItemsSpec)) frameItemsCard

/-- THE TIED CARD OF 'lookoutlaw02.SatSpans'. -/
def satSpansCard : Claim7 := { stood := { row := satSpansRow, standIns := [], harness := (true, "38cc61ff4fd0a8d420b34f02cbe74a931c8dc9cb8671002a4b8de3d056da0428"), looks := false }, kinds := [], alts := [], laidByText := true, laidKinds := [.data, .data, .data], laidTests := true, laidLooks := .later }
def SatSpansCardSaid : Prop := Claim7.holds Tryd.pinned (.plain (OpenSpec.ofChange satSpansSpec)) satSpansCard

/-- THE TIED CARD OF 'lookoutlaw25.StatsPlays'. -/
def statsPlaysCard : Claim7 := { stood := { row := statsPlaysRow, standIns := [], harness := (true, "38cc61ff4fd0a8d420b34f02cbe74a931c8dc9cb8671002a4b8de3d056da0428"), looks := false }, kinds := [], alts := [], laidByText := true, laidKinds := [.data, .data, .data, .data], laidTests := true, laidLooks := .later }
def StatsPlaysCardSaid : Prop := Claim7.holds Tryd.pinned (.plain (OpenSpec.ofChange statsPlaysSpec)) statsPlaysCard

/-- THE TIED CARD OF 'lookoutlaw25.StatsShows'. -/
def statsShowsCard : Claim7 := { stood := { row := statsShowsRow, standIns := [], harness := (true, "38cc61ff4fd0a8d420b34f02cbe74a931c8dc9cb8671002a4b8de3d056da0428"), looks := false }, kinds := [], alts := [], laidByText := true, laidKinds := [.data, .data, .data, .data], laidTests := true, laidLooks := .later }
def StatsShowsCardSaid : Prop := Claim7.holds Tryd.pinned (.plain (OpenSpec.ofChange statsShowsSpec)) statsShowsCard

/-- THE TIED CARD OF 'lookoutlaw25.StatsBuckets'. -/
def statsBucketsCard : Claim7 := { stood := { row := statsBucketsRow, standIns := [], harness := (true, "38cc61ff4fd0a8d420b34f02cbe74a931c8dc9cb8671002a4b8de3d056da0428"), looks := false }, kinds := [], alts := [], laidByText := true, laidKinds := [.data, .data, .data, .data], laidTests := true, laidLooks := .later }
def StatsBucketsCardSaid : Prop := Claim7.holds Tryd.pinned (.plain (OpenSpec.ofChange statsBucketsSpec)) statsBucketsCard

/-- THE TIED CARD OF 'lookoutlaw25.StatsOrder'. -/
def statsOrderCard : Claim7 := { stood := { row := statsOrderRow, standIns := [], harness := (true, "38cc61ff4fd0a8d420b34f02cbe74a931c8dc9cb8671002a4b8de3d056da0428"), looks := false }, kinds := [], alts := [], laidByText := true, laidKinds := [.data, .data, .data, .data], laidTests := true, laidLooks := .later }
def StatsOrderCardSaid : Prop := Claim7.holds Tryd.pinned (.plain (OpenSpec.ofChange statsOrderSpec)) statsOrderCard

/-- THE TIED CARD OF 'lookoutlaw07.RecordPuts'. -/
def recordPutsCard : Claim7 := { stood := { row := recordPutsRow, standIns := [], harness := (true, "38cc61ff4fd0a8d420b34f02cbe74a931c8dc9cb8671002a4b8de3d056da0428"), looks := false }, kinds := [], alts := [], laidByText := true, laidKinds := [.data, .data, .data, .data, .data], laidTests := true, laidLooks := .later }
def RecordPutsCardSaid : Prop := Claim7.holds Tryd.pinned (.plain (OpenSpec.ofChange recordPutsSpec)) recordPutsCard

/-- THE TIED CARD OF 'lookoutlaw07.RecordTakes'. -/
def recordTakesCard : Claim7 := { stood := { row := recordTakesRow, standIns := [], harness := (true, "38cc61ff4fd0a8d420b34f02cbe74a931c8dc9cb8671002a4b8de3d056da0428"), looks := false }, kinds := [], alts := [], laidByText := true, laidKinds := [.data, .data, .data, .data, .data], laidTests := true, laidLooks := .later }
def RecordTakesCardSaid : Prop := Claim7.holds Tryd.pinned (.plain (OpenSpec.ofChange recordTakesSpec)) recordTakesCard

/-- THE TIED CARD OF 'lookoutlaw07.RecordAll'. -/
def recordAllCard : Claim7 := { stood := { row := recordAllRow, standIns := [], harness := (true, "38cc61ff4fd0a8d420b34f02cbe74a931c8dc9cb8671002a4b8de3d056da0428"), looks := false }, kinds := [], alts := [], laidByText := true, laidKinds := [.data, .data, .data, .data, .data], laidTests := true, laidLooks := .later }
def RecordAllCardSaid : Prop := Claim7.holds Tryd.pinned (.plain (OpenSpec.ofChange recordAllSpec)) recordAllCard

/-- THE TIED CARD OF 'lookoutlaw07.RecordBack'. -/
def recordBackCard : Claim7 := { stood := { row := recordBackRow, standIns := [], harness := (true, "38cc61ff4fd0a8d420b34f02cbe74a931c8dc9cb8671002a4b8de3d056da0428"), looks := false }, kinds := [], alts := [], laidByText := true, laidKinds := [.data, .data, .data, .data, .data], laidTests := true, laidLooks := .later }
def RecordBackCardSaid : Prop := Claim7.holds Tryd.pinned (.plain (OpenSpec.ofChange recordBackSpec)) recordBackCard

/-- THE TIED CARD OF 'lookoutlaw07.RecordOne'. -/
def recordOneCard : Claim7 := { stood := { row := recordOneRow, standIns := [], harness := (true, "38cc61ff4fd0a8d420b34f02cbe74a931c8dc9cb8671002a4b8de3d056da0428"), looks := false }, kinds := [], alts := [], laidByText := true, laidKinds := [.data, .data, .data, .data, .data], laidTests := true, laidLooks := .later }
def RecordOneCardSaid : Prop := Claim7.holds Tryd.pinned (.plain (OpenSpec.ofChange recordOneSpec)) recordOneCard

/-- THE TIED CARD OF 'lookoutlaw07.RecordApart'. -/
def recordApartCard : Claim7 := { stood := { row := recordApartRow, standIns := [], harness := (true, "38cc61ff4fd0a8d420b34f02cbe74a931c8dc9cb8671002a4b8de3d056da0428"), looks := false }, kinds := [], alts := [], laidByText := true, laidKinds := [.data, .data, .data, .data, .data], laidTests := true, laidLooks := .later }
def RecordApartCardSaid : Prop := Claim7.holds Tryd.pinned (.plain (OpenSpec.ofChange recordApartSpec)) recordApartCard

/-- THE SECOND FORM's CARD OF 'lookoutlaw04.FrameItems'. -/
def frameItemsUptoCard : Claim7 := { stood := { row := frameItemsUptoRow, standIns := [], harness := (true, "38cc61ff4fd0a8d420b34f02cbe74a931c8dc9cb8671002a4b8de3d056da0428"), looks := false }, kinds := [], alts := [], laidByText := true, laidKinds := [.data], laidTests := true, laidLooks := .later }
def FrameItemsUptoCardSaid : Prop := Claim7.holds Tryd.pinned (.plain (OpenSpec.upto frameItemsSpec)) frameItemsUptoCard

/-- THE SECOND FORM's CARD OF 'lookoutlaw02.SatSpans'. -/
def satSpansUptoCard : Claim7 := { stood := { row := satSpansUptoRow, standIns := [], harness := (true, "38cc61ff4fd0a8d420b34f02cbe74a931c8dc9cb8671002a4b8de3d056da0428"), looks := false }, kinds := [], alts := [], laidByText := true, laidKinds := [.data, .data, .data], laidTests := true, laidLooks := .later }
def SatSpansUptoCardSaid : Prop := Claim7.holds Tryd.pinned (.plain (OpenSpec.upto satSpansSpec)) satSpansUptoCard

/-- THE SECOND FORM's CARD OF 'lookoutlaw25.StatsPlays'. -/
def statsPlaysUptoCard : Claim7 := { stood := { row := statsPlaysUptoRow, standIns := [], harness := (true, "38cc61ff4fd0a8d420b34f02cbe74a931c8dc9cb8671002a4b8de3d056da0428"), looks := false }, kinds := [], alts := [], laidByText := true, laidKinds := [.data, .data, .data, .data], laidTests := true, laidLooks := .later }
def StatsPlaysUptoCardSaid : Prop := Claim7.holds Tryd.pinned (.plain (OpenSpec.upto statsPlaysSpec)) statsPlaysUptoCard

/-- THE SECOND FORM's CARD OF 'lookoutlaw25.StatsShows'. -/
def statsShowsUptoCard : Claim7 := { stood := { row := statsShowsUptoRow, standIns := [], harness := (true, "38cc61ff4fd0a8d420b34f02cbe74a931c8dc9cb8671002a4b8de3d056da0428"), looks := false }, kinds := [], alts := [], laidByText := true, laidKinds := [.data, .data, .data, .data], laidTests := true, laidLooks := .later }
def StatsShowsUptoCardSaid : Prop := Claim7.holds Tryd.pinned (.plain (OpenSpec.upto statsShowsSpec)) statsShowsUptoCard

/-- THE SECOND FORM's CARD OF 'lookoutlaw25.StatsBuckets'. -/
def statsBucketsUptoCard : Claim7 := { stood := { row := statsBucketsUptoRow, standIns := [], harness := (true, "38cc61ff4fd0a8d420b34f02cbe74a931c8dc9cb8671002a4b8de3d056da0428"), looks := false }, kinds := [], alts := [], laidByText := true, laidKinds := [.data, .data, .data, .data], laidTests := true, laidLooks := .later }
def StatsBucketsUptoCardSaid : Prop := Claim7.holds Tryd.pinned (.plain (OpenSpec.upto statsBucketsSpec)) statsBucketsUptoCard

/-- THE SECOND FORM's CARD OF 'lookoutlaw25.StatsOrder'. -/
def statsOrderUptoCard : Claim7 := { stood := { row := statsOrderUptoRow, standIns := [], harness := (true, "38cc61ff4fd0a8d420b34f02cbe74a931c8dc9cb8671002a4b8de3d056da0428"), looks := false }, kinds := [], alts := [], laidByText := true, laidKinds := [.data, .data, .data, .data], laidTests := true, laidLooks := .later }
def StatsOrderUptoCardSaid : Prop := Claim7.holds Tryd.pinned (.plain (OpenSpec.upto statsOrderSpec)) statsOrderUptoCard

/-- THE SECOND FORM's CARD OF 'lookoutlaw07.RecordPuts'. -/
def recordPutsUptoCard : Claim7 := { stood := { row := recordPutsUptoRow, standIns := [], harness := (true, "38cc61ff4fd0a8d420b34f02cbe74a931c8dc9cb8671002a4b8de3d056da0428"), looks := false }, kinds := [], alts := [], laidByText := true, laidKinds := [.data, .data, .data, .data, .data], laidTests := true, laidLooks := .later }
def RecordPutsUptoCardSaid : Prop := Claim7.holds Tryd.pinned (.plain (OpenSpec.upto recordPutsSpec)) recordPutsUptoCard

/-- THE SECOND FORM's CARD OF 'lookoutlaw07.RecordTakes'. -/
def recordTakesUptoCard : Claim7 := { stood := { row := recordTakesUptoRow, standIns := [], harness := (true, "38cc61ff4fd0a8d420b34f02cbe74a931c8dc9cb8671002a4b8de3d056da0428"), looks := false }, kinds := [], alts := [], laidByText := true, laidKinds := [.data, .data, .data, .data, .data], laidTests := true, laidLooks := .later }
def RecordTakesUptoCardSaid : Prop := Claim7.holds Tryd.pinned (.plain (OpenSpec.upto recordTakesSpec)) recordTakesUptoCard

/-- THE SECOND FORM's CARD OF 'lookoutlaw07.RecordAll'. -/
def recordAllUptoCard : Claim7 := { stood := { row := recordAllUptoRow, standIns := [], harness := (true, "38cc61ff4fd0a8d420b34f02cbe74a931c8dc9cb8671002a4b8de3d056da0428"), looks := false }, kinds := [], alts := [], laidByText := true, laidKinds := [.data, .data, .data, .data, .data], laidTests := true, laidLooks := .later }
def RecordAllUptoCardSaid : Prop := Claim7.holds Tryd.pinned (.plain (OpenSpec.upto recordAllSpec)) recordAllUptoCard

/-- THE SECOND FORM's CARD OF 'lookoutlaw07.RecordBack'. -/
def recordBackUptoCard : Claim7 := { stood := { row := recordBackUptoRow, standIns := [], harness := (true, "38cc61ff4fd0a8d420b34f02cbe74a931c8dc9cb8671002a4b8de3d056da0428"), looks := false }, kinds := [], alts := [], laidByText := true, laidKinds := [.data, .data, .data, .data, .data], laidTests := true, laidLooks := .later }
def RecordBackUptoCardSaid : Prop := Claim7.holds Tryd.pinned (.plain (OpenSpec.upto recordBackSpec)) recordBackUptoCard

/-- THE SECOND FORM's CARD OF 'lookoutlaw07.RecordOne'. -/
def recordOneUptoCard : Claim7 := { stood := { row := recordOneUptoRow, standIns := [], harness := (true, "38cc61ff4fd0a8d420b34f02cbe74a931c8dc9cb8671002a4b8de3d056da0428"), looks := false }, kinds := [], alts := [], laidByText := true, laidKinds := [.data, .data, .data, .data, .data], laidTests := true, laidLooks := .later }
def RecordOneUptoCardSaid : Prop := Claim7.holds Tryd.pinned (.plain (OpenSpec.upto recordOneSpec)) recordOneUptoCard

/-- THE SECOND FORM's CARD OF 'lookoutlaw07.RecordApart'. -/
def recordApartUptoCard : Claim7 := { stood := { row := recordApartUptoRow, standIns := [], harness := (true, "38cc61ff4fd0a8d420b34f02cbe74a931c8dc9cb8671002a4b8de3d056da0428"), looks := false }, kinds := [], alts := [], laidByText := true, laidKinds := [.data, .data, .data, .data, .data], laidTests := true, laidLooks := .later }
def RecordApartUptoCardSaid : Prop := Claim7.holds Tryd.pinned (.plain (OpenSpec.upto recordApartSpec)) recordApartUptoCard
end Rows
end Go.Proofs.YtdmpopdacbdnlaaDoor
