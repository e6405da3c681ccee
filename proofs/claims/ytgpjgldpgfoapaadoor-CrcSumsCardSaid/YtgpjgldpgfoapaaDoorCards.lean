/-
  DERIVED. GIVEN WITH THE SEED: THE CARDS: each row of YtgpjgldpgfoapaaDoorRows.lean that lists a variable, with what it lists TIED to the program's text (the seventh form; the later family's looks); each row that meets fmt, with fmt's text TOLD by the authors' own Lean function (tested against real Go, not proved from fmt's source: count such statements apart). THE CARD IS WHAT COUNTS. Prove the row's statement (the work); the ties are given (YtgpjgldpgfoapaaDoorTie.lean); close each card by the builder's one call (the guide's Derived/Test/ToyasCard.lean, 'card_holds'). Laid BY PROGRAM, IN A SANDBOX (cutbox-door.mjs). By AI agents, Wed Nov 11 2026. No macro, syntax, notation, axiom, sorry.
-/
import Derived.Test.YtgpjgldpgfoapaaDoorRows
import GoSem.ClaimSeven
namespace Go.Proofs.YtgpjgldpgfoapaaDoor
namespace Rows

/-- THE TIED CARD OF 'lookoutlaw03.CrcSums'. -/
def crcSumsCard : Claim7 := { stood := { row := crcSumsRow, standIns := [], harness := (true, "1ebc4c3c7b7df87f0f3353a12306aa8ae34c1ac72d70afdecad8160de2208d89"), looks := false }, kinds := [], alts := [], laidByText := true, laidKinds := [.data], laidTests := true, laidLooks := .later }
def CrcSumsCardSaid : Prop := Claim7.holds Tryd.pinned (.plain (OpenSpec.ofChange crcSumsSpec)) crcSumsCard

/-- THE TIED CARD OF 'lookoutlaw03.CrcMore'. -/
def crcMoreCard : Claim7 := { stood := { row := crcMoreRow, standIns := [], harness := (true, "1ebc4c3c7b7df87f0f3353a12306aa8ae34c1ac72d70afdecad8160de2208d89"), looks := false }, kinds := [], alts := [], laidByText := true, laidKinds := [.data], laidTests := true, laidLooks := .later }
def CrcMoreCardSaid : Prop := Claim7.holds Tryd.pinned (.plain (OpenSpec.ofChange crcMoreSpec)) crcMoreCard

/-- THE TIED CARD OF 'lookoutlaw03.CrcLinear'. -/
def crcLinearCard : Claim7 := { stood := { row := crcLinearRow, standIns := [], harness := (true, "1ebc4c3c7b7df87f0f3353a12306aa8ae34c1ac72d70afdecad8160de2208d89"), looks := false }, kinds := [], alts := [], laidByText := true, laidKinds := [.data], laidTests := true, laidLooks := .later }
def CrcLinearCardSaid : Prop := Claim7.holds Tryd.pinned (.plain (OpenSpec.ofChange crcLinearSpec)) crcLinearCard

/-- THE TIED CARD OF 'lookoutlaw03.CrcBurst'. -/
def crcBurstCard : Claim7 := { stood := { row := crcBurstRow, standIns := [], harness := (true, "1ebc4c3c7b7df87f0f3353a12306aa8ae34c1ac72d70afdecad8160de2208d89"), looks := false }, kinds := [], alts := [], laidByText := true, laidKinds := [.data], laidTests := true, laidLooks := .later }
def CrcBurstCardSaid : Prop := Claim7.holds Tryd.pinned (.plain (OpenSpec.ofChange crcBurstSpec)) crcBurstCard

/-- THE TIED CARD OF 'lookoutlaw03.CrcZero'. -/
def crcZeroCard : Claim7 := { stood := { row := crcZeroRow, standIns := [], harness := (true, "1ebc4c3c7b7df87f0f3353a12306aa8ae34c1ac72d70afdecad8160de2208d89"), looks := false }, kinds := [], alts := [], laidByText := true, laidKinds := [.data], laidTests := true, laidLooks := .later }
def CrcZeroCardSaid : Prop := Claim7.holds Tryd.pinned (.plain (OpenSpec.ofChange crcZeroSpec)) crcZeroCard

/-- THE TIED CARD OF 'lookoutlaw02.SatSpans'. -/
def satSpansCard : Claim7 := { stood := { row := satSpansRow, standIns := [], harness := (true, "1ebc4c3c7b7df87f0f3353a12306aa8ae34c1ac72d70afdecad8160de2208d89"), looks := false }, kinds := [], alts := [], laidByText := true, laidKinds := [.data, .data, .data], laidTests := true, laidLooks := .later }
def SatSpansCardSaid : Prop := Claim7.holds Tryd.pinned (.plain (OpenSpec.ofChange satSpansSpec)) satSpansCard

/-- THE SECOND FORM's CARD OF 'lookoutlaw03.CrcSums'. -/
def crcSumsUptoCard : Claim7 := { stood := { row := crcSumsUptoRow, standIns := [], harness := (true, "1ebc4c3c7b7df87f0f3353a12306aa8ae34c1ac72d70afdecad8160de2208d89"), looks := false }, kinds := [], alts := [], laidByText := true, laidKinds := [.data], laidTests := true, laidLooks := .later }
def CrcSumsUptoCardSaid : Prop := Claim7.holds Tryd.pinned (.plain (OpenSpec.upto crcSumsSpec)) crcSumsUptoCard

/-- THE SECOND FORM's CARD OF 'lookoutlaw03.CrcMore'. -/
def crcMoreUptoCard : Claim7 := { stood := { row := crcMoreUptoRow, standIns := [], harness := (true, "1ebc4c3c7b7df87f0f3353a12306aa8ae34c1ac72d70afdecad8160de2208d89"), looks := false }, kinds := [], alts := [], laidByText := true, laidKinds := [.data], laidTests := true, laidLooks := .later }
def CrcMoreUptoCardSaid : Prop := Claim7.holds Tryd.pinned (.plain (OpenSpec.upto crcMoreSpec)) crcMoreUptoCard

/-- THE SECOND FORM's CARD OF 'lookoutlaw03.CrcLinear'. -/
def crcLinearUptoCard : Claim7 := { stood := { row := crcLinearUptoRow, standIns := [], harness := (true, "1ebc4c3c7b7df87f0f3353a12306aa8ae34c1ac72d70afdecad8160de2208d89"), looks := false }, kinds := [], alts := [], laidByText := true, laidKinds := [.data], laidTests := true, laidLooks := .later }
def CrcLinearUptoCardSaid : Prop := Claim7.holds Tryd.pinned (.plain (OpenSpec.upto crcLinearSpec)) crcLinearUptoCard

/-- THE SECOND FORM's CARD OF 'lookoutlaw03.CrcBurst'. -/
def crcBurstUptoCard : Claim7 := { stood := { row := crcBurstUptoRow, standIns := [], harness := (true, "1ebc4c3c7b7df87f0f3353a12306aa8ae34c1ac72d70afdecad8160de2208d89"), looks := false }, kinds := [], alts := [], laidByText := true, laidKinds := [.data], laidTests := true, laidLooks := .later }
def CrcBurstUptoCardSaid : Prop := Claim7.holds Tryd.pinned (.plain (OpenSpec.upto crcBurstSpec)) crcBurstUptoCard

/-- THE SECOND FORM's CARD OF 'lookoutlaw03.CrcZero'. -/
def crcZeroUptoCard : Claim7 := { stood := { row := crcZeroUptoRow, standIns := [], harness := (true, "1ebc4c3c7b7df87f0f3353a12306aa8ae34c1ac72d70afdecad8160de2208d89"), looks := false }, kinds := [], alts := [], laidByText := true, laidKinds := [.data], laidTests := true, laidLooks := .later }
def CrcZeroUptoCardSaid : Prop := Claim7.holds Tryd.pinned (.plain (OpenSpec.upto crcZeroSpec)) crcZeroUptoCard

/-- THE SECOND FORM's CARD OF 'lookoutlaw02.SatSpans'. -/
def satSpansUptoCard : Claim7 := { stood := { row := satSpansUptoRow, standIns := [], harness := (true, "1ebc4c3c7b7df87f0f3353a12306aa8ae34c1ac72d70afdecad8160de2208d89"), looks := false }, kinds := [], alts := [], laidByText := true, laidKinds := [.data, .data, .data], laidTests := true, laidLooks := .later }
def SatSpansUptoCardSaid : Prop := Claim7.holds Tryd.pinned (.plain (OpenSpec.upto satSpansSpec)) satSpansUptoCard
end Rows
end Go.Proofs.YtgpjgldpgfoapaaDoor
