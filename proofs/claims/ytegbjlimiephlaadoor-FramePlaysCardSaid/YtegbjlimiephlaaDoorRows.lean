/-
  NARROWER THAN 'FOR EVERY INPUT', by the rows' own cells (each row's printed sentence says how): FramePuts: laid · FramePlays: laid · FramePieces: laid · FrameBack: laid · FrameAfter: laid · FrameCounts: laid · FrameSpoilt: laid · FrameItems: laid.
  DERIVED. THE GIVEN ROWS OF THIS SEAT. 8 by the template 'for every input the law returns true; each argument reads behind the call as it read before'; 0 by the template 'total and deterministic' (their statements: YtegbjlimiephlaaDoorTotals.lean).
  GIVEN WITH THE SEED: the statements are not yours to turn. If you find one false, say at which input.
  Laid BY PROGRAM, IN A SANDBOX (cutbox-rows.mjs): the forced cells as the released guide's own fill.sh prints them over the translation 2e679a856a3fa030… (all of the seat's roots in one cut). By AI agents, Wed Nov 11 2026. No macro, syntax, notation, axiom, sorry.
-/
import Derived.Test.YtegbjlimiephlaaDoorChecked
import GoSem.Claim
import GoSem.ClaimJoined
import GoSem.ClaimMapViews
import Derived.JoinedTies
import Derived.KernelRfl
namespace Go.Proofs.YtegbjlimiephlaaDoor
/- THE CELL 'sum', in the pinned program and in every row, IS THE sha256 OF THE DUMP (.gsa) THAT YtegbjlimiephlaaDoorProg.lean LOADS. Nothing in Lean hashes anything: it is a label: what it is worth is what the hold of that sum in a sandbox is worth. -/
noncomputable def Tryd.pinned : Pinned := { name := "ytegbjlimiephlaadoor", sum := "2e679a856a3fa030206093ba0f700b2e266f0e45b47c575749e55efde8fbbf8b", checked := Tryd.checked }
namespace Rows
def none {H : Type} : Left H := { results := [], args := [] }

/- WHAT THE LISTED PACKAGE-LEVEL VARIABLES READ AS WHEN THE CALL BEGINS. Each datum BY PROGRAM (the guide's laid-datum.mjs) off the statement by which the dump's own 'gosem.cut.vars' lays the variable. In a bare row this is a premise. The card (YtegbjlimiephlaaDoorCards.lean) ties it to the program's text. -/
def laid_lookout_crc_turns {H : Type} : DataW H := .agg [.lit (.int .u32 0), .lit (.int .u32 8801531), .lit (.int .u32 9098509), .lit (.int .u32 825846), .lit (.int .u32 9692897), .lit (.int .u32 1419802), .lit (.int .u32 1651692), .lit (.int .u32 10452759), .lit (.int .u32 10584377), .lit (.int .u32 2608578), .lit (.int .u32 2839604), .lit (.int .u32 11344079), .lit (.int .u32 3303384), .lit (.int .u32 11807523), .lit (.int .u32 12104405), .lit (.int .u32 4128302)]

/-- 'lookoutlaw04.FramePuts': WHATEVER THE INPUT: true; the input reads as it did. -/
def framePutsSpec : ChangeSpec := { name := "framePuts", fn := fun _ => fun
  | [d1, d2] => { results := [.lit (.bool true)], args := [d1, d2] }
  | _ => none }
def framePutsRow : OpenClaim := { program := "ytegbjlimiephlaadoor", sum := "2e679a856a3fa030206093ba0f700b2e266f0e45b47c575749e55efde8fbbf8b", func := "lookout/lookoutlaw04.FramePuts", spec := "framePuts", named := ["lookout/crc.turns"], apart := false, laid := [("lookout/crc.turns", laid_lookout_crc_turns)] }
def FramePutsSaid : Prop := framePutsRow.holds Tryd.pinned (OpenSpec.ofChange framePutsSpec)

/-- ITS FALSE NEIGHBOUR: 'it returns false'. Refute it at one input. -/
def framePutsWrong : ChangeSpec := { name := "framePuts", fn := fun _ => fun
  | [d1, d2] => { results := [.lit (.bool false)], args := [d1, d2] }
  | _ => none }
def FramePutsWrongFalsely : Prop := framePutsRow.holds Tryd.pinned (OpenSpec.ofChange framePutsWrong)

/-- 'lookoutlaw04.FramePlays': WHATEVER THE INPUT: true; the input reads as it did. -/
def framePlaysSpec : ChangeSpec := { name := "framePlays", fn := fun _ => fun
  | [d] => { results := [.lit (.bool true)], args := [d] }
  | _ => none }
def framePlaysRow : OpenClaim := { program := "ytegbjlimiephlaadoor", sum := "2e679a856a3fa030206093ba0f700b2e266f0e45b47c575749e55efde8fbbf8b", func := "lookout/lookoutlaw04.FramePlays", spec := "framePlays", named := ["lookout/crc.turns"], apart := false, laid := [("lookout/crc.turns", laid_lookout_crc_turns)] }
def FramePlaysSaid : Prop := framePlaysRow.holds Tryd.pinned (OpenSpec.ofChange framePlaysSpec)

/-- ITS FALSE NEIGHBOUR: 'it returns false'. Refute it at one input. -/
def framePlaysWrong : ChangeSpec := { name := "framePlays", fn := fun _ => fun
  | [d] => { results := [.lit (.bool false)], args := [d] }
  | _ => none }
def FramePlaysWrongFalsely : Prop := framePlaysRow.holds Tryd.pinned (OpenSpec.ofChange framePlaysWrong)

/-- 'lookoutlaw04.FramePieces': WHATEVER THE INPUT: true; the input reads as it did. -/
def framePiecesSpec : ChangeSpec := { name := "framePieces", fn := fun _ => fun
  | [d] => { results := [.lit (.bool true)], args := [d] }
  | _ => none }
def framePiecesRow : OpenClaim := { program := "ytegbjlimiephlaadoor", sum := "2e679a856a3fa030206093ba0f700b2e266f0e45b47c575749e55efde8fbbf8b", func := "lookout/lookoutlaw04.FramePieces", spec := "framePieces", named := ["lookout/crc.turns"], apart := false, laid := [("lookout/crc.turns", laid_lookout_crc_turns)] }
def FramePiecesSaid : Prop := framePiecesRow.holds Tryd.pinned (OpenSpec.ofChange framePiecesSpec)

/-- ITS FALSE NEIGHBOUR: 'it returns false'. Refute it at one input. -/
def framePiecesWrong : ChangeSpec := { name := "framePieces", fn := fun _ => fun
  | [d] => { results := [.lit (.bool false)], args := [d] }
  | _ => none }
def FramePiecesWrongFalsely : Prop := framePiecesRow.holds Tryd.pinned (OpenSpec.ofChange framePiecesWrong)

/-- 'lookoutlaw04.FrameBack': WHATEVER THE INPUT: true; the input reads as it did. -/
def frameBackSpec : ChangeSpec := { name := "frameBack", fn := fun _ => fun
  | [d] => { results := [.lit (.bool true)], args := [d] }
  | _ => none }
def frameBackRow : OpenClaim := { program := "ytegbjlimiephlaadoor", sum := "2e679a856a3fa030206093ba0f700b2e266f0e45b47c575749e55efde8fbbf8b", func := "lookout/lookoutlaw04.FrameBack", spec := "frameBack", named := ["lookout/crc.turns"], apart := false, laid := [("lookout/crc.turns", laid_lookout_crc_turns)] }
def FrameBackSaid : Prop := frameBackRow.holds Tryd.pinned (OpenSpec.ofChange frameBackSpec)

/-- ITS FALSE NEIGHBOUR: 'it returns false'. Refute it at one input. -/
def frameBackWrong : ChangeSpec := { name := "frameBack", fn := fun _ => fun
  | [d] => { results := [.lit (.bool false)], args := [d] }
  | _ => none }
def FrameBackWrongFalsely : Prop := frameBackRow.holds Tryd.pinned (OpenSpec.ofChange frameBackWrong)

/-- 'lookoutlaw04.FrameAfter': WHATEVER THE INPUT: true; the input reads as it did. -/
def frameAfterSpec : ChangeSpec := { name := "frameAfter", fn := fun _ => fun
  | [d1, d2] => { results := [.lit (.bool true)], args := [d1, d2] }
  | _ => none }
def frameAfterRow : OpenClaim := { program := "ytegbjlimiephlaadoor", sum := "2e679a856a3fa030206093ba0f700b2e266f0e45b47c575749e55efde8fbbf8b", func := "lookout/lookoutlaw04.FrameAfter", spec := "frameAfter", named := ["lookout/crc.turns"], apart := false, laid := [("lookout/crc.turns", laid_lookout_crc_turns)] }
def FrameAfterSaid : Prop := frameAfterRow.holds Tryd.pinned (OpenSpec.ofChange frameAfterSpec)

/-- ITS FALSE NEIGHBOUR: 'it returns false'. Refute it at one input. -/
def frameAfterWrong : ChangeSpec := { name := "frameAfter", fn := fun _ => fun
  | [d1, d2] => { results := [.lit (.bool false)], args := [d1, d2] }
  | _ => none }
def FrameAfterWrongFalsely : Prop := frameAfterRow.holds Tryd.pinned (OpenSpec.ofChange frameAfterWrong)

/-- 'lookoutlaw04.FrameCounts': WHATEVER THE INPUT: true; the input reads as it did. -/
def frameCountsSpec : ChangeSpec := { name := "frameCounts", fn := fun _ => fun
  | [d] => { results := [.lit (.bool true)], args := [d] }
  | _ => none }
def frameCountsRow : OpenClaim := { program := "ytegbjlimiephlaadoor", sum := "2e679a856a3fa030206093ba0f700b2e266f0e45b47c575749e55efde8fbbf8b", func := "lookout/lookoutlaw04.FrameCounts", spec := "frameCounts", named := ["lookout/crc.turns"], apart := false, laid := [("lookout/crc.turns", laid_lookout_crc_turns)] }
def FrameCountsSaid : Prop := frameCountsRow.holds Tryd.pinned (OpenSpec.ofChange frameCountsSpec)

/-- ITS FALSE NEIGHBOUR: 'it returns false'. Refute it at one input. -/
def frameCountsWrong : ChangeSpec := { name := "frameCounts", fn := fun _ => fun
  | [d] => { results := [.lit (.bool false)], args := [d] }
  | _ => none }
def FrameCountsWrongFalsely : Prop := frameCountsRow.holds Tryd.pinned (OpenSpec.ofChange frameCountsWrong)

/-- 'lookoutlaw04.FrameSpoilt': WHATEVER THE INPUT: true; the input reads as it did. -/
def frameSpoiltSpec : ChangeSpec := { name := "frameSpoilt", fn := fun _ => fun
  | [d1, d2, d3] => { results := [.lit (.bool true)], args := [d1, d2, d3] }
  | _ => none }
def frameSpoiltRow : OpenClaim := { program := "ytegbjlimiephlaadoor", sum := "2e679a856a3fa030206093ba0f700b2e266f0e45b47c575749e55efde8fbbf8b", func := "lookout/lookoutlaw04.FrameSpoilt", spec := "frameSpoilt", named := ["lookout/crc.turns"], apart := false, laid := [("lookout/crc.turns", laid_lookout_crc_turns)] }
def FrameSpoiltSaid : Prop := frameSpoiltRow.holds Tryd.pinned (OpenSpec.ofChange frameSpoiltSpec)

/-- ITS FALSE NEIGHBOUR: 'it returns false'. Refute it at one input. -/
def frameSpoiltWrong : ChangeSpec := { name := "frameSpoilt", fn := fun _ => fun
  | [d1, d2, d3] => { results := [.lit (.bool false)], args := [d1, d2, d3] }
  | _ => none }
def FrameSpoiltWrongFalsely : Prop := frameSpoiltRow.holds Tryd.pinned (OpenSpec.ofChange frameSpoiltWrong)

/-- 'lookoutlaw04.FrameItems': WHATEVER THE INPUT: true; the input reads as it did. -/
def frameItemsSpec : ChangeSpec := { name := "frameItems", fn := fun _ => fun
  | [d1, d2] => { results := [.lit (.bool true)], args := [d1, d2] }
  | _ => none }
def frameItemsRow : OpenClaim := { program := "ytegbjlimiephlaadoor", sum := "2e679a856a3fa030206093ba0f700b2e266f0e45b47c575749e55efde8fbbf8b", func := "lookout/lookoutlaw04.FrameItems", spec := "frameItems", unfollowed := true, recurses := true, named := ["lookout/crc.turns"], apart := false, laid := [("lookout/crc.turns", laid_lookout_crc_turns)] }
def FrameItemsSaid : Prop := frameItemsRow.holds Tryd.pinned (OpenSpec.ofChange frameItemsSpec)

/-- ITS FALSE NEIGHBOUR: 'it returns false'. Refute it at one input. -/
def frameItemsWrong : ChangeSpec := { name := "frameItems", fn := fun _ => fun
  | [d1, d2] => { results := [.lit (.bool false)], args := [d1, d2] }
  | _ => none }
def FrameItemsWrongFalsely : Prop := frameItemsRow.holds Tryd.pinned (OpenSpec.ofChange frameItemsWrong)

/- THE SECOND FORM. 'bulk': how many values and letters a reading holds, each counted each time it is reached (what is shared counts as often as it is met; a slice's spare places count too). A statement '..UptoSaid' is the law's where the arguments, and the package variables that the reading takes, are together of bulk at most 1048576: NARROWER than '..Said'. Prove '..Said' where nothing that the law and all that it calls make is longer than what came in: it says more and counts as full. Else prove '..UptoSaid'. A law counts once. -/
mutual
def uptoBulk {H : Type} : DataW H → Nat
  | .lit (.string bytes) => bytes.length + 1
  | .lit _ => 1
  | .nil => 1
  | .ptr d => uptoBulk d + 1
  | .slice elems spare => uptoBulkAll elems + uptoBulkAll spare + 1
  | .agg parts => uptoBulkAll parts + 1
  | .iface _ d => uptoBulk d + 1
  | .map entries => uptoBulkEntries entries + 1
  | .held _ => 1
def uptoBulkAll {H : Type} : List (DataW H) → Nat
  | [] => 0
  | d :: r => uptoBulk d + uptoBulkAll r
def uptoBulkEntries {H : Type} : List (Lit × DataW H) → Nat
  | [] => 0
  | x :: r => uptoBulkEntry x + uptoBulkEntries r
def uptoBulkEntry {H : Type} : Lit × DataW H → Nat
  | (.string bytes, d) => bytes.length + uptoBulk d + 1
  | (_, d) => uptoBulk d + 1
 end
def uptoSmall : (H : Type) → List (DataW H) → Bool := fun _ ds => decide (uptoBulkAll ds ≤ 1048576)
def OpenSpec.upto (s : _root_.Go.ChangeSpec) : _root_.Go.OpenSpec := { _root_.Go.OpenSpec.ofChange s with cond := some uptoSmall }

/-- 'lookoutlaw04.FramePuts', WHERE WHAT IT READS IS OF BULK AT MOST 1048576: true; the input reads as it did. -/
def framePutsUptoRow : OpenClaim := { program := "ytegbjlimiephlaadoor", sum := "2e679a856a3fa030206093ba0f700b2e266f0e45b47c575749e55efde8fbbf8b", func := "lookout/lookoutlaw04.FramePuts", spec := "framePuts", named := ["lookout/crc.turns"], apart := false, laid := [("lookout/crc.turns", laid_lookout_crc_turns)], narrowed := true }
def FramePutsUptoSaid : Prop := framePutsUptoRow.holds Tryd.pinned (OpenSpec.upto framePutsSpec)

/-- 'lookoutlaw04.FramePlays', WHERE WHAT IT READS IS OF BULK AT MOST 1048576: true; the input reads as it did. -/
def framePlaysUptoRow : OpenClaim := { program := "ytegbjlimiephlaadoor", sum := "2e679a856a3fa030206093ba0f700b2e266f0e45b47c575749e55efde8fbbf8b", func := "lookout/lookoutlaw04.FramePlays", spec := "framePlays", named := ["lookout/crc.turns"], apart := false, laid := [("lookout/crc.turns", laid_lookout_crc_turns)], narrowed := true }
def FramePlaysUptoSaid : Prop := framePlaysUptoRow.holds Tryd.pinned (OpenSpec.upto framePlaysSpec)

/-- 'lookoutlaw04.FramePieces', WHERE WHAT IT READS IS OF BULK AT MOST 1048576: true; the input reads as it did. -/
def framePiecesUptoRow : OpenClaim := { program := "ytegbjlimiephlaadoor", sum := "2e679a856a3fa030206093ba0f700b2e266f0e45b47c575749e55efde8fbbf8b", func := "lookout/lookoutlaw04.FramePieces", spec := "framePieces", named := ["lookout/crc.turns"], apart := false, laid := [("lookout/crc.turns", laid_lookout_crc_turns)], narrowed := true }
def FramePiecesUptoSaid : Prop := framePiecesUptoRow.holds Tryd.pinned (OpenSpec.upto framePiecesSpec)

/-- 'lookoutlaw04.FrameBack', WHERE WHAT IT READS IS OF BULK AT MOST 1048576: true; the input reads as it did. -/
def frameBackUptoRow : OpenClaim := { program := "ytegbjlimiephlaadoor", sum := "2e679a856a3fa030206093ba0f700b2e266f0e45b47c575749e55efde8fbbf8b", func := "lookout/lookoutlaw04.FrameBack", spec := "frameBack", named := ["lookout/crc.turns"], apart := false, laid := [("lookout/crc.turns", laid_lookout_crc_turns)], narrowed := true }
def FrameBackUptoSaid : Prop := frameBackUptoRow.holds Tryd.pinned (OpenSpec.upto frameBackSpec)

/-- 'lookoutlaw04.FrameAfter', WHERE WHAT IT READS IS OF BULK AT MOST 1048576: true; the input reads as it did. -/
def frameAfterUptoRow : OpenClaim := { program := "ytegbjlimiephlaadoor", sum := "2e679a856a3fa030206093ba0f700b2e266f0e45b47c575749e55efde8fbbf8b", func := "lookout/lookoutlaw04.FrameAfter", spec := "frameAfter", named := ["lookout/crc.turns"], apart := false, laid := [("lookout/crc.turns", laid_lookout_crc_turns)], narrowed := true }
def FrameAfterUptoSaid : Prop := frameAfterUptoRow.holds Tryd.pinned (OpenSpec.upto frameAfterSpec)

/-- 'lookoutlaw04.FrameCounts', WHERE WHAT IT READS IS OF BULK AT MOST 1048576: true; the input reads as it did. -/
def frameCountsUptoRow : OpenClaim := { program := "ytegbjlimiephlaadoor", sum := "2e679a856a3fa030206093ba0f700b2e266f0e45b47c575749e55efde8fbbf8b", func := "lookout/lookoutlaw04.FrameCounts", spec := "frameCounts", named := ["lookout/crc.turns"], apart := false, laid := [("lookout/crc.turns", laid_lookout_crc_turns)], narrowed := true }
def FrameCountsUptoSaid : Prop := frameCountsUptoRow.holds Tryd.pinned (OpenSpec.upto frameCountsSpec)

/-- 'lookoutlaw04.FrameSpoilt', WHERE WHAT IT READS IS OF BULK AT MOST 1048576: true; the input reads as it did. -/
def frameSpoiltUptoRow : OpenClaim := { program := "ytegbjlimiephlaadoor", sum := "2e679a856a3fa030206093ba0f700b2e266f0e45b47c575749e55efde8fbbf8b", func := "lookout/lookoutlaw04.FrameSpoilt", spec := "frameSpoilt", named := ["lookout/crc.turns"], apart := false, laid := [("lookout/crc.turns", laid_lookout_crc_turns)], narrowed := true }
def FrameSpoiltUptoSaid : Prop := frameSpoiltUptoRow.holds Tryd.pinned (OpenSpec.upto frameSpoiltSpec)

/-- 'lookoutlaw04.FrameItems', WHERE WHAT IT READS IS OF BULK AT MOST 1048576: true; the input reads as it did. -/
def frameItemsUptoRow : OpenClaim := { program := "ytegbjlimiephlaadoor", sum := "2e679a856a3fa030206093ba0f700b2e266f0e45b47c575749e55efde8fbbf8b", func := "lookout/lookoutlaw04.FrameItems", spec := "frameItems", unfollowed := true, recurses := true, named := ["lookout/crc.turns"], apart := false, laid := [("lookout/crc.turns", laid_lookout_crc_turns)], narrowed := true }
def FrameItemsUptoSaid : Prop := frameItemsUptoRow.holds Tryd.pinned (OpenSpec.upto frameItemsSpec)

end Rows
end Go.Proofs.YtegbjlimiephlaaDoor
