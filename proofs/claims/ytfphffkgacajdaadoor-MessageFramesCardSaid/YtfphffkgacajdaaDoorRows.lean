/-
  NARROWER THAN 'FOR EVERY INPUT', by the rows' own cells (each row's printed sentence says how): MessagePuts: laid · MessageTakes: laid · MessageBack: laid · MessageCut: laid · MessageFrames: laid · RecordPuts: laid · RecordTakes: laid · RecordAll: laid · RecordBack: laid · RecordOne: laid · RecordApart: laid.
  DERIVED. THE GIVEN ROWS OF THIS SEAT. 11 by the template 'for every input the law returns true; each argument reads behind the call as it read before'; 0 by the template 'total and deterministic' (their statements: YtfphffkgacajdaaDoorTotals.lean).
  GIVEN WITH THE SEED: the statements are not yours to turn. If you find one false, say at which input.
  Laid BY PROGRAM, IN A SANDBOX (cutbox-rows.mjs): the forced cells as the released guide's own fill.sh prints them over the translation d4aba5fdbca83340… (all of the seat's roots in one cut). By AI agents, Wed Nov 11 2026. No macro, syntax, notation, axiom, sorry.
-/
import Derived.Test.YtfphffkgacajdaaDoorChecked
import GoSem.Claim
import GoSem.ClaimJoined
import GoSem.ClaimMapViews
import Derived.JoinedTies
import Derived.KernelRfl
namespace Go.Proofs.YtfphffkgacajdaaDoor
/- THE CELL 'sum', in the pinned program and in every row, IS THE sha256 OF THE DUMP (.gsa) THAT YtfphffkgacajdaaDoorProg.lean LOADS. Nothing in Lean hashes anything: it is a label: what it is worth is what the hold of that sum in a sandbox is worth. -/
noncomputable def Tryd.pinned : Pinned := { name := "ytfphffkgacajdaadoor", sum := "d4aba5fdbca8334057c64d11354201affacbed8179fc13f8541a120a21520d82", checked := Tryd.checked }
namespace Rows
def none {H : Type} : Left H := { results := [], args := [] }

/- WHAT THE LISTED PACKAGE-LEVEL VARIABLES READ AS WHEN THE CALL BEGINS. Each datum BY PROGRAM (the guide's laid-datum.mjs) off the statement by which the dump's own 'gosem.cut.vars' lays the variable. In a bare row this is a premise. The card (YtfphffkgacajdaaDoorCards.lean) ties it to the program's text. -/
def laid_lookout_crc_turns {H : Type} : DataW H := .agg [.lit (.int .u32 0), .lit (.int .u32 8801531), .lit (.int .u32 9098509), .lit (.int .u32 825846), .lit (.int .u32 9692897), .lit (.int .u32 1419802), .lit (.int .u32 1651692), .lit (.int .u32 10452759), .lit (.int .u32 10584377), .lit (.int .u32 2608578), .lit (.int .u32 2839604), .lit (.int .u32 11344079), .lit (.int .u32 3303384), .lit (.int .u32 11807523), .lit (.int .u32 12104405), .lit (.int .u32 4128302)]
def laid_math_bits_deBruijn32tab {H : Type} : DataW H := .agg [.lit (.int .u8 0), .lit (.int .u8 1), .lit (.int .u8 28), .lit (.int .u8 2), .lit (.int .u8 29), .lit (.int .u8 14), .lit (.int .u8 24), .lit (.int .u8 3), .lit (.int .u8 30), .lit (.int .u8 22), .lit (.int .u8 20), .lit (.int .u8 15), .lit (.int .u8 25), .lit (.int .u8 17), .lit (.int .u8 4), .lit (.int .u8 8), .lit (.int .u8 31), .lit (.int .u8 27), .lit (.int .u8 13), .lit (.int .u8 23), .lit (.int .u8 21), .lit (.int .u8 19), .lit (.int .u8 16), .lit (.int .u8 7), .lit (.int .u8 26), .lit (.int .u8 12), .lit (.int .u8 18), .lit (.int .u8 6), .lit (.int .u8 11), .lit (.int .u8 5), .lit (.int .u8 10), .lit (.int .u8 9)]
def laid_math_bits_deBruijn64tab {H : Type} : DataW H := .agg [.lit (.int .u8 0), .lit (.int .u8 1), .lit (.int .u8 56), .lit (.int .u8 2), .lit (.int .u8 57), .lit (.int .u8 49), .lit (.int .u8 28), .lit (.int .u8 3), .lit (.int .u8 61), .lit (.int .u8 58), .lit (.int .u8 42), .lit (.int .u8 50), .lit (.int .u8 38), .lit (.int .u8 29), .lit (.int .u8 17), .lit (.int .u8 4), .lit (.int .u8 62), .lit (.int .u8 47), .lit (.int .u8 59), .lit (.int .u8 36), .lit (.int .u8 45), .lit (.int .u8 43), .lit (.int .u8 51), .lit (.int .u8 22), .lit (.int .u8 53), .lit (.int .u8 39), .lit (.int .u8 33), .lit (.int .u8 30), .lit (.int .u8 24), .lit (.int .u8 18), .lit (.int .u8 12), .lit (.int .u8 5), .lit (.int .u8 63), .lit (.int .u8 55), .lit (.int .u8 48), .lit (.int .u8 27), .lit (.int .u8 60), .lit (.int .u8 41), .lit (.int .u8 37), .lit (.int .u8 16), .lit (.int .u8 46), .lit (.int .u8 35), .lit (.int .u8 44), .lit (.int .u8 21), .lit (.int .u8 52), .lit (.int .u8 32), .lit (.int .u8 23), .lit (.int .u8 11), .lit (.int .u8 54), .lit (.int .u8 26), .lit (.int .u8 40), .lit (.int .u8 15), .lit (.int .u8 34), .lit (.int .u8 20), .lit (.int .u8 31), .lit (.int .u8 10), .lit (.int .u8 25), .lit (.int .u8 14), .lit (.int .u8 19), .lit (.int .u8 9), .lit (.int .u8 13), .lit (.int .u8 8), .lit (.int .u8 7), .lit (.int .u8 6)]
def laid_internal_strconv_uint64pow10 {H : Type} : DataW H := .agg [.lit (.int .u64 1), .lit (.int .u64 10), .lit (.int .u64 100), .lit (.int .u64 1000), .lit (.int .u64 10000), .lit (.int .u64 100000), .lit (.int .u64 1000000), .lit (.int .u64 10000000), .lit (.int .u64 100000000), .lit (.int .u64 1000000000), .lit (.int .u64 10000000000), .lit (.int .u64 100000000000), .lit (.int .u64 1000000000000), .lit (.int .u64 10000000000000), .lit (.int .u64 100000000000000), .lit (.int .u64 1000000000000000), .lit (.int .u64 10000000000000000), .lit (.int .u64 100000000000000000), .lit (.int .u64 1000000000000000000), .lit (.int .u64 10000000000000000000)]
def laid_lookout_record_forms {H : Type} : DataW H := .agg [.agg [.lit (.string [109, 97, 108, 102, 111, 114, 109, 101, 100]), .lit (.string [115, 110])], .agg [.lit (.string [119, 114, 111, 110, 103]), .lit (.string [115, 99])], .agg [.lit (.string [114, 101, 102, 117, 115, 101, 100]), .lit (.string [115, 99])], .agg [.lit (.string [114, 101, 106, 101, 99, 116, 101, 100]), .lit (.string [115, 113, 97, 99])], .agg [.lit (.string [115, 104, 101, 100]), .lit (.string [115, 113, 97])], .agg [.lit (.string [108, 97, 116, 101]), .lit (.string [115, 113, 97])], .agg [.lit (.string [97, 99, 99, 101, 112, 116, 101, 100]), .lit (.string [115, 113, 97])], .agg [.lit (.string [103, 97, 112]), .lit (.string [115, 113])], .agg [.lit (.string [115, 117, 115, 112, 101, 99, 116]), .lit (.string [115, 97])], .agg [.lit (.string [114, 101, 106, 111, 105, 110]), .lit (.string [115])], .agg [.lit (.string [111, 118, 101, 114, 102, 108, 111, 119]), .lit (.string [99, 97])], .agg [.lit (.string [112, 114, 111, 118, 105, 115, 105, 111, 110, 97, 108]), .lit (.string [97, 121])], .agg [.lit (.string [114, 101, 116, 114, 97, 99, 116, 105, 111, 110]), .lit (.string [97, 121])], .agg [.lit (.string [102, 105, 110, 97, 108]), .lit (.string [97, 121])], .agg [.lit (.string [108, 97, 116, 101, 110, 99, 121]), .lit (.string [97, 110])], .agg [.lit (.string [115, 117, 109, 109, 97, 114, 121]), .lit (.string [116])]]

/-- 'lookoutlaw06.MessagePuts': WHATEVER THE INPUT: true; the input reads as it did. -/
def messagePutsSpec : ChangeSpec := { name := "messagePuts", fn := fun _ => fun
  | [d] => { results := [.lit (.bool true)], args := [d] }
  | _ => none }
def messagePutsRow : OpenClaim := { program := "ytfphffkgacajdaadoor", sum := "d4aba5fdbca8334057c64d11354201affacbed8179fc13f8541a120a21520d82", func := "lookout/lookoutlaw06.MessagePuts", spec := "messagePuts", inPlace := ["internal/bytealg.abigen_runtime_cmpstring"], unfollowed := true, recurses := true, named := ["lookout/crc.turns"], apart := false, laid := [("lookout/crc.turns", laid_lookout_crc_turns)] }
def MessagePutsSaid : Prop := messagePutsRow.holds Tryd.pinned (OpenSpec.ofChange messagePutsSpec)

/-- ITS FALSE NEIGHBOUR: 'it returns false'. Refute it at one input. -/
def messagePutsWrong : ChangeSpec := { name := "messagePuts", fn := fun _ => fun
  | [d] => { results := [.lit (.bool false)], args := [d] }
  | _ => none }
def MessagePutsWrongFalsely : Prop := messagePutsRow.holds Tryd.pinned (OpenSpec.ofChange messagePutsWrong)

/-- 'lookoutlaw06.MessageTakes': WHATEVER THE INPUT: true; the input reads as it did. -/
def messageTakesSpec : ChangeSpec := { name := "messageTakes", fn := fun _ => fun
  | [d1, d2] => { results := [.lit (.bool true)], args := [d1, d2] }
  | _ => none }
def messageTakesRow : OpenClaim := { program := "ytfphffkgacajdaadoor", sum := "d4aba5fdbca8334057c64d11354201affacbed8179fc13f8541a120a21520d82", func := "lookout/lookoutlaw06.MessageTakes", spec := "messageTakes", inPlace := ["internal/bytealg.abigen_runtime_cmpstring"], unfollowed := true, recurses := true, named := ["lookout/crc.turns"], apart := false, laid := [("lookout/crc.turns", laid_lookout_crc_turns)] }
def MessageTakesSaid : Prop := messageTakesRow.holds Tryd.pinned (OpenSpec.ofChange messageTakesSpec)

/-- ITS FALSE NEIGHBOUR: 'it returns false'. Refute it at one input. -/
def messageTakesWrong : ChangeSpec := { name := "messageTakes", fn := fun _ => fun
  | [d1, d2] => { results := [.lit (.bool false)], args := [d1, d2] }
  | _ => none }
def MessageTakesWrongFalsely : Prop := messageTakesRow.holds Tryd.pinned (OpenSpec.ofChange messageTakesWrong)

/-- 'lookoutlaw06.MessageBack': WHATEVER THE INPUT: true; the input reads as it did. -/
def messageBackSpec : ChangeSpec := { name := "messageBack", fn := fun _ => fun
  | [d1, d2, d3] => { results := [.lit (.bool true)], args := [d1, d2, d3] }
  | _ => none }
def messageBackRow : OpenClaim := { program := "ytfphffkgacajdaadoor", sum := "d4aba5fdbca8334057c64d11354201affacbed8179fc13f8541a120a21520d82", func := "lookout/lookoutlaw06.MessageBack", spec := "messageBack", inPlace := ["internal/bytealg.abigen_runtime_cmpstring"], unfollowed := true, recurses := true, named := ["lookout/crc.turns"], apart := false, laid := [("lookout/crc.turns", laid_lookout_crc_turns)] }
def MessageBackSaid : Prop := messageBackRow.holds Tryd.pinned (OpenSpec.ofChange messageBackSpec)

/-- ITS FALSE NEIGHBOUR: 'it returns false'. Refute it at one input. -/
def messageBackWrong : ChangeSpec := { name := "messageBack", fn := fun _ => fun
  | [d1, d2, d3] => { results := [.lit (.bool false)], args := [d1, d2, d3] }
  | _ => none }
def MessageBackWrongFalsely : Prop := messageBackRow.holds Tryd.pinned (OpenSpec.ofChange messageBackWrong)

/-- 'lookoutlaw06.MessageCut': WHATEVER THE INPUT: true; the input reads as it did. -/
def messageCutSpec : ChangeSpec := { name := "messageCut", fn := fun _ => fun
  | [d1, d2, d3] => { results := [.lit (.bool true)], args := [d1, d2, d3] }
  | _ => none }
def messageCutRow : OpenClaim := { program := "ytfphffkgacajdaadoor", sum := "d4aba5fdbca8334057c64d11354201affacbed8179fc13f8541a120a21520d82", func := "lookout/lookoutlaw06.MessageCut", spec := "messageCut", inPlace := ["internal/bytealg.abigen_runtime_cmpstring"], unfollowed := true, recurses := true, named := ["lookout/crc.turns"], apart := false, laid := [("lookout/crc.turns", laid_lookout_crc_turns)] }
def MessageCutSaid : Prop := messageCutRow.holds Tryd.pinned (OpenSpec.ofChange messageCutSpec)

/-- ITS FALSE NEIGHBOUR: 'it returns false'. Refute it at one input. -/
def messageCutWrong : ChangeSpec := { name := "messageCut", fn := fun _ => fun
  | [d1, d2, d3] => { results := [.lit (.bool false)], args := [d1, d2, d3] }
  | _ => none }
def MessageCutWrongFalsely : Prop := messageCutRow.holds Tryd.pinned (OpenSpec.ofChange messageCutWrong)

/-- 'lookoutlaw06.MessageFrames': WHATEVER THE INPUT: true; the input reads as it did. -/
def messageFramesSpec : ChangeSpec := { name := "messageFrames", fn := fun _ => fun
  | [d] => { results := [.lit (.bool true)], args := [d] }
  | _ => none }
def messageFramesRow : OpenClaim := { program := "ytfphffkgacajdaadoor", sum := "d4aba5fdbca8334057c64d11354201affacbed8179fc13f8541a120a21520d82", func := "lookout/lookoutlaw06.MessageFrames", spec := "messageFrames", inPlace := ["internal/bytealg.abigen_runtime_cmpstring"], unfollowed := true, recurses := true, named := ["lookout/crc.turns"], apart := false, laid := [("lookout/crc.turns", laid_lookout_crc_turns)] }
def MessageFramesSaid : Prop := messageFramesRow.holds Tryd.pinned (OpenSpec.ofChange messageFramesSpec)

/-- ITS FALSE NEIGHBOUR: 'it returns false'. Refute it at one input. -/
def messageFramesWrong : ChangeSpec := { name := "messageFrames", fn := fun _ => fun
  | [d] => { results := [.lit (.bool false)], args := [d] }
  | _ => none }
def MessageFramesWrongFalsely : Prop := messageFramesRow.holds Tryd.pinned (OpenSpec.ofChange messageFramesWrong)

/-- 'lookoutlaw07.RecordPuts': WHATEVER THE INPUT: true; the input reads as it did. -/
def recordPutsSpec : ChangeSpec := { name := "recordPuts", fn := fun _ => fun
  | [d] => { results := [.lit (.bool true)], args := [d] }
  | _ => none }
def recordPutsRow : OpenClaim := { program := "ytfphffkgacajdaadoor", sum := "d4aba5fdbca8334057c64d11354201affacbed8179fc13f8541a120a21520d82", func := "lookout/lookoutlaw07.RecordPuts", spec := "recordPuts", unfollowed := true, recurses := true, named := ["lookout/record.forms", "lookout/crc.turns", "internal/strconv.uint64pow10", "math/bits.deBruijn32tab", "math/bits.deBruijn64tab"], apart := false, laid := [("lookout/crc.turns", laid_lookout_crc_turns), ("math/bits.deBruijn32tab", laid_math_bits_deBruijn32tab), ("math/bits.deBruijn64tab", laid_math_bits_deBruijn64tab), ("internal/strconv.uint64pow10", laid_internal_strconv_uint64pow10), ("lookout/record.forms", laid_lookout_record_forms)] }
def RecordPutsSaid : Prop := recordPutsRow.holds Tryd.pinned (OpenSpec.ofChange recordPutsSpec)

/-- ITS FALSE NEIGHBOUR: 'it returns false'. Refute it at one input. -/
def recordPutsWrong : ChangeSpec := { name := "recordPuts", fn := fun _ => fun
  | [d] => { results := [.lit (.bool false)], args := [d] }
  | _ => none }
def RecordPutsWrongFalsely : Prop := recordPutsRow.holds Tryd.pinned (OpenSpec.ofChange recordPutsWrong)

/-- 'lookoutlaw07.RecordTakes': WHATEVER THE INPUT: true; the input reads as it did. -/
def recordTakesSpec : ChangeSpec := { name := "recordTakes", fn := fun _ => fun
  | [d1, d2] => { results := [.lit (.bool true)], args := [d1, d2] }
  | _ => none }
def recordTakesRow : OpenClaim := { program := "ytfphffkgacajdaadoor", sum := "d4aba5fdbca8334057c64d11354201affacbed8179fc13f8541a120a21520d82", func := "lookout/lookoutlaw07.RecordTakes", spec := "recordTakes", unfollowed := true, recurses := true, named := ["lookout/record.forms", "lookout/crc.turns", "internal/strconv.uint64pow10", "math/bits.deBruijn32tab", "math/bits.deBruijn64tab"], apart := false, laid := [("lookout/crc.turns", laid_lookout_crc_turns), ("math/bits.deBruijn32tab", laid_math_bits_deBruijn32tab), ("math/bits.deBruijn64tab", laid_math_bits_deBruijn64tab), ("internal/strconv.uint64pow10", laid_internal_strconv_uint64pow10), ("lookout/record.forms", laid_lookout_record_forms)] }
def RecordTakesSaid : Prop := recordTakesRow.holds Tryd.pinned (OpenSpec.ofChange recordTakesSpec)

/-- ITS FALSE NEIGHBOUR: 'it returns false'. Refute it at one input. -/
def recordTakesWrong : ChangeSpec := { name := "recordTakes", fn := fun _ => fun
  | [d1, d2] => { results := [.lit (.bool false)], args := [d1, d2] }
  | _ => none }
def RecordTakesWrongFalsely : Prop := recordTakesRow.holds Tryd.pinned (OpenSpec.ofChange recordTakesWrong)

/-- 'lookoutlaw07.RecordAll': WHATEVER THE INPUT: true; the input reads as it did. -/
def recordAllSpec : ChangeSpec := { name := "recordAll", fn := fun _ => fun
  | [d] => { results := [.lit (.bool true)], args := [d] }
  | _ => none }
def recordAllRow : OpenClaim := { program := "ytfphffkgacajdaadoor", sum := "d4aba5fdbca8334057c64d11354201affacbed8179fc13f8541a120a21520d82", func := "lookout/lookoutlaw07.RecordAll", spec := "recordAll", unfollowed := true, recurses := true, named := ["lookout/record.forms", "lookout/crc.turns", "internal/strconv.uint64pow10", "math/bits.deBruijn32tab", "math/bits.deBruijn64tab"], apart := false, laid := [("lookout/crc.turns", laid_lookout_crc_turns), ("math/bits.deBruijn32tab", laid_math_bits_deBruijn32tab), ("math/bits.deBruijn64tab", laid_math_bits_deBruijn64tab), ("internal/strconv.uint64pow10", laid_internal_strconv_uint64pow10), ("lookout/record.forms", laid_lookout_record_forms)] }
def RecordAllSaid : Prop := recordAllRow.holds Tryd.pinned (OpenSpec.ofChange recordAllSpec)

/-- ITS FALSE NEIGHBOUR: 'it returns false'. Refute it at one input. -/
def recordAllWrong : ChangeSpec := { name := "recordAll", fn := fun _ => fun
  | [d] => { results := [.lit (.bool false)], args := [d] }
  | _ => none }
def RecordAllWrongFalsely : Prop := recordAllRow.holds Tryd.pinned (OpenSpec.ofChange recordAllWrong)

/-- 'lookoutlaw07.RecordBack': WHATEVER THE INPUT: true; the input reads as it did. -/
def recordBackSpec : ChangeSpec := { name := "recordBack", fn := fun _ => fun
  | [d] => { results := [.lit (.bool true)], args := [d] }
  | _ => none }
def recordBackRow : OpenClaim := { program := "ytfphffkgacajdaadoor", sum := "d4aba5fdbca8334057c64d11354201affacbed8179fc13f8541a120a21520d82", func := "lookout/lookoutlaw07.RecordBack", spec := "recordBack", unfollowed := true, recurses := true, named := ["lookout/record.forms", "lookout/crc.turns", "internal/strconv.uint64pow10", "math/bits.deBruijn32tab", "math/bits.deBruijn64tab"], apart := false, laid := [("lookout/crc.turns", laid_lookout_crc_turns), ("math/bits.deBruijn32tab", laid_math_bits_deBruijn32tab), ("math/bits.deBruijn64tab", laid_math_bits_deBruijn64tab), ("internal/strconv.uint64pow10", laid_internal_strconv_uint64pow10), ("lookout/record.forms", laid_lookout_record_forms)] }
def RecordBackSaid : Prop := recordBackRow.holds Tryd.pinned (OpenSpec.ofChange recordBackSpec)

/-- ITS FALSE NEIGHBOUR: 'it returns false'. Refute it at one input. -/
def recordBackWrong : ChangeSpec := { name := "recordBack", fn := fun _ => fun
  | [d] => { results := [.lit (.bool false)], args := [d] }
  | _ => none }
def RecordBackWrongFalsely : Prop := recordBackRow.holds Tryd.pinned (OpenSpec.ofChange recordBackWrong)

/-- 'lookoutlaw07.RecordOne': WHATEVER THE INPUT: true; the input reads as it did. -/
def recordOneSpec : ChangeSpec := { name := "recordOne", fn := fun _ => fun
  | [d1, d2] => { results := [.lit (.bool true)], args := [d1, d2] }
  | _ => none }
def recordOneRow : OpenClaim := { program := "ytfphffkgacajdaadoor", sum := "d4aba5fdbca8334057c64d11354201affacbed8179fc13f8541a120a21520d82", func := "lookout/lookoutlaw07.RecordOne", spec := "recordOne", unfollowed := true, recurses := true, named := ["lookout/record.forms", "lookout/crc.turns", "internal/strconv.uint64pow10", "math/bits.deBruijn32tab", "math/bits.deBruijn64tab"], apart := false, laid := [("lookout/crc.turns", laid_lookout_crc_turns), ("math/bits.deBruijn32tab", laid_math_bits_deBruijn32tab), ("math/bits.deBruijn64tab", laid_math_bits_deBruijn64tab), ("internal/strconv.uint64pow10", laid_internal_strconv_uint64pow10), ("lookout/record.forms", laid_lookout_record_forms)] }
def RecordOneSaid : Prop := recordOneRow.holds Tryd.pinned (OpenSpec.ofChange recordOneSpec)

/-- ITS FALSE NEIGHBOUR: 'it returns false'. Refute it at one input. -/
def recordOneWrong : ChangeSpec := { name := "recordOne", fn := fun _ => fun
  | [d1, d2] => { results := [.lit (.bool false)], args := [d1, d2] }
  | _ => none }
def RecordOneWrongFalsely : Prop := recordOneRow.holds Tryd.pinned (OpenSpec.ofChange recordOneWrong)

/-- 'lookoutlaw07.RecordApart': WHATEVER THE INPUT: true; the input reads as it did. -/
def recordApartSpec : ChangeSpec := { name := "recordApart", fn := fun _ => fun
  | [d1, d2] => { results := [.lit (.bool true)], args := [d1, d2] }
  | _ => none }
def recordApartRow : OpenClaim := { program := "ytfphffkgacajdaadoor", sum := "d4aba5fdbca8334057c64d11354201affacbed8179fc13f8541a120a21520d82", func := "lookout/lookoutlaw07.RecordApart", spec := "recordApart", unfollowed := true, recurses := true, named := ["lookout/record.forms", "lookout/crc.turns", "internal/strconv.uint64pow10", "math/bits.deBruijn32tab", "math/bits.deBruijn64tab"], apart := false, laid := [("lookout/crc.turns", laid_lookout_crc_turns), ("math/bits.deBruijn32tab", laid_math_bits_deBruijn32tab), ("math/bits.deBruijn64tab", laid_math_bits_deBruijn64tab), ("internal/strconv.uint64pow10", laid_internal_strconv_uint64pow10), ("lookout/record.forms", laid_lookout_record_forms)] }
def RecordApartSaid : Prop := recordApartRow.holds Tryd.pinned (OpenSpec.ofChange recordApartSpec)

/-- ITS FALSE NEIGHBOUR: 'it returns false'. Refute it at one input. -/
def recordApartWrong : ChangeSpec := { name := "recordApart", fn := fun _ => fun
  | [d1, d2] => { results := [.lit (.bool false)], args := [d1, d2] }
  | _ => none }
def RecordApartWrongFalsely : Prop := recordApartRow.holds Tryd.pinned (OpenSpec.ofChange recordApartWrong)

/- THE SECOND FORM. 'bulk': how many values and letters a reading holds, each counted each time it is reached (what is shared counts as often as it is met; a slice's spare places count too). A statement '..UptoSaid' is the law's where the arguments, and the package variables that the reading takes, are together of bulk at most 1048576: NARROWER than '..Said'. Prove '..Said' where nothing that the law and all that it calls make is longer than what came in: it says more and counts as full. Else prove '..UptoSaid'. A law counts once. -/
mutual
def uptoBulk {H : Type} : DataW H → Nat
  | .lit (.string bytes) => bytes.length + 1
  | .lit _ => 1
  | .nil => 1
  | .ptr d => uptoBulk d + 1
  | .slice elems spare => uptoBulkAll elems + uptoBulkAll spare + 1
  | .agg parts => uptoBulkAll parts + 1
  | .iface _ d => uptoBulk d + 1
  | .map entries => uptoBulkEntries entries + 1
  | .held _ => 1
def uptoBulkAll {H : Type} : List (DataW H) → Nat
  | [] => 0
  | d :: r => uptoBulk d + uptoBulkAll r
def uptoBulkEntries {H : Type} : List (Lit × DataW H) → Nat
  | [] => 0
  | x :: r => uptoBulkEntry x + uptoBulkEntries r
def uptoBulkEntry {H : Type} : Lit × DataW H → Nat
  | (.string bytes, d) => bytes.length + uptoBulk d + 1
  | (_, d) => uptoBulk d + 1
 end
def uptoSmall : (H : Type) → List (DataW H) → Bool := fun _ ds => decide (uptoBulkAll ds ≤ 1048576)
def OpenSpec.upto (s : _root_.Go.ChangeSpec) : _root_.Go.OpenSpec := { _root_.Go.OpenSpec.ofChange s with cond := some uptoSmall }

/-- 'lookoutlaw06.MessagePuts', WHERE WHAT IT READS IS OF BULK AT MOST 1048576: true; the input reads as it did. -/
def messagePutsUptoRow : OpenClaim := { program := "ytfphffkgacajdaadoor", sum := "d4aba5fdbca8334057c64d11354201affacbed8179fc13f8541a120a21520d82", func := "lookout/lookoutlaw06.MessagePuts", spec := "messagePuts", inPlace := ["internal/bytealg.abigen_runtime_cmpstring"], unfollowed := true, recurses := true, named := ["lookout/crc.turns"], apart := false, laid := [("lookout/crc.turns", laid_lookout_crc_turns)], narrowed := true }
def MessagePutsUptoSaid : Prop := messagePutsUptoRow.holds Tryd.pinned (OpenSpec.upto messagePutsSpec)

/-- 'lookoutlaw06.MessageTakes', WHERE WHAT IT READS IS OF BULK AT MOST 1048576: true; the input reads as it did. -/
def messageTakesUptoRow : OpenClaim := { program := "ytfphffkgacajdaadoor", sum := "d4aba5fdbca8334057c64d11354201affacbed8179fc13f8541a120a21520d82", func := "lookout/lookoutlaw06.MessageTakes", spec := "messageTakes", inPlace := ["internal/bytealg.abigen_runtime_cmpstring"], unfollowed := true, recurses := true, named := ["lookout/crc.turns"], apart := false, laid := [("lookout/crc.turns", laid_lookout_crc_turns)], narrowed := true }
def MessageTakesUptoSaid : Prop := messageTakesUptoRow.holds Tryd.pinned (OpenSpec.upto messageTakesSpec)

/-- 'lookoutlaw06.MessageBack', WHERE WHAT IT READS IS OF BULK AT MOST 1048576: true; the input reads as it did. -/
def messageBackUptoRow : OpenClaim := { program := "ytfphffkgacajdaadoor", sum := "d4aba5fdbca8334057c64d11354201affacbed8179fc13f8541a120a21520d82", func := "lookout/lookoutlaw06.MessageBack", spec := "messageBack", inPlace := ["internal/bytealg.abigen_runtime_cmpstring"], unfollowed := true, recurses := true, named := ["lookout/crc.turns"], apart := false, laid := [("lookout/crc.turns", laid_lookout_crc_turns)], narrowed := true }
def MessageBackUptoSaid : Prop := messageBackUptoRow.holds Tryd.pinned (OpenSpec.upto messageBackSpec)

/-- 'lookoutlaw06.MessageCut', WHERE WHAT IT READS IS OF BULK AT MOST 1048576: true; the input reads as it did. -/
def messageCutUptoRow : OpenClaim := { program := "ytfphffkgacajdaadoor", sum := "d4aba5fdbca8334057c64d11354201affacbed8179fc13f8541a120a21520d82", func := "lookout/lookoutlaw06.MessageCut", spec := "messageCut", inPlace := ["internal/bytealg.abigen_runtime_cmpstring"], unfollowed := true, recurses := true, named := ["lookout/crc.turns"], apart := false, laid := [("lookout/crc.turns", laid_lookout_crc_turns)], narrowed := true }
def MessageCutUptoSaid : Prop := messageCutUptoRow.holds Tryd.pinned (OpenSpec.upto messageCutSpec)

/-- 'lookoutlaw06.MessageFrames', WHERE WHAT IT READS IS OF BULK AT MOST 1048576: true; the input reads as it did. -/
def messageFramesUptoRow : OpenClaim := { program := "ytfphffkgacajdaadoor", sum := "d4aba5fdbca8334057c64d11354201affacbed8179fc13f8541a120a21520d82", func := "lookout/lookoutlaw06.MessageFrames", spec := "messageFrames", inPlace := ["internal/bytealg.abigen_runtime_cmpstring"], unfollowed := true, recurses := true, named := ["lookout/crc.turns"], apart := false, laid := [("lookout/crc.turns", laid_lookout_crc_turns)], narrowed := true }
def MessageFramesUptoSaid : Prop := messageFramesUptoRow.holds Tryd.pinned (OpenSpec.upto messageFramesSpec)

/-- 'lookoutlaw07.RecordPuts', WHERE WHAT IT READS IS OF BULK AT MOST 1048576: true; the input reads as it did. -/
def recordPutsUptoRow : OpenClaim := { program := "ytfphffkgacajdaadoor", sum := "d4aba5fdbca8334057c64d11354201affacbed8179fc13f8541a120a21520d82", func := "lookout/lookoutlaw07.RecordPuts", spec := "recordPuts", unfollowed := true, recurses := true, named := ["lookout/record.forms", "lookout/crc.turns", "internal/strconv.uint64pow10", "math/bits.deBruijn32tab", "math/bits.deBruijn64tab"], apart := false, laid := [("lookout/crc.turns", laid_lookout_crc_turns), ("math/bits.deBruijn32tab", laid_math_bits_deBruijn32tab), ("math/bits.deBruijn64tab", laid_math_bits_deBruijn64tab), ("internal/strconv.uint64pow10", laid_internal_strconv_uint64pow10), ("lookout/record.forms", laid_lookout_record_forms)], narrowed := true }
def RecordPutsUptoSaid : Prop := recordPutsUptoRow.holds Tryd.pinned (OpenSpec.upto recordPutsSpec)

/-- 'lookoutlaw07.RecordTakes', WHERE WHAT IT READS IS OF BULK AT MOST 1048576: true; the input reads as it did. -/
def recordTakesUptoRow : OpenClaim := { program := "ytfphffkgacajdaadoor", sum := "d4aba5fdbca8334057c64d11354201affacbed8179fc13f8541a120a21520d82", func := "lookout/lookoutlaw07.RecordTakes", spec := "recordTakes", unfollowed := true, recurses := true, named := ["lookout/record.forms", "lookout/crc.turns", "internal/strconv.uint64pow10", "math/bits.deBruijn32tab", "math/bits.deBruijn64tab"], apart := false, laid := [("lookout/crc.turns", laid_lookout_crc_turns), ("math/bits.deBruijn32tab", laid_math_bits_deBruijn32tab), ("math/bits.deBruijn64tab", laid_math_bits_deBruijn64tab), ("internal/strconv.uint64pow10", laid_internal_strconv_uint64pow10), ("lookout/record.forms", laid_lookout_record_forms)], narrowed := true }
def RecordTakesUptoSaid : Prop := recordTakesUptoRow.holds Tryd.pinned (OpenSpec.upto recordTakesSpec)

/-- 'lookoutlaw07.RecordAll', WHERE WHAT IT READS IS OF BULK AT MOST 1048576: true; the input reads as it did. -/
def recordAllUptoRow : OpenClaim := { program := "ytfphffkgacajdaadoor", sum := "d4aba5fdbca8334057c64d11354201affacbed8179fc13f8541a120a21520d82", func := "lookout/lookoutlaw07.RecordAll", spec := "recordAll", unfollowed := true, recurses := true, named := ["lookout/record.forms", "lookout/crc.turns", "internal/strconv.uint64pow10", "math/bits.deBruijn32tab", "math/bits.deBruijn64tab"], apart := false, laid := [("lookout/crc.turns", laid_lookout_crc_turns), ("math/bits.deBruijn32tab", laid_math_bits_deBruijn32tab), ("math/bits.deBruijn64tab", laid_math_bits_deBruijn64tab), ("internal/strconv.uint64pow10", laid_internal_strconv_uint64pow10), ("lookout/record.forms", laid_lookout_record_forms)], narrowed := true }
def RecordAllUptoSaid : Prop := recordAllUptoRow.holds Tryd.pinned (OpenSpec.upto recordAllSpec)

/-- 'lookoutlaw07.RecordBack', WHERE WHAT IT READS IS OF BULK AT MOST 1048576: true; the input reads as it did. -/
def recordBackUptoRow : OpenClaim := { program := "ytfphffkgacajdaadoor", sum := "d4aba5fdbca8334057c64d11354201affacbed8179fc13f8541a120a21520d82", func := "lookout/lookoutlaw07.RecordBack", spec := "recordBack", unfollowed := true, recurses := true, named := ["lookout/record.forms", "lookout/crc.turns", "internal/strconv.uint64pow10", "math/bits.deBruijn32tab", "math/bits.deBruijn64tab"], apart := false, laid := [("lookout/crc.turns", laid_lookout_crc_turns), ("math/bits.deBruijn32tab", laid_math_bits_deBruijn32tab), ("math/bits.deBruijn64tab", laid_math_bits_deBruijn64tab), ("internal/strconv.uint64pow10", laid_internal_strconv_uint64pow10), ("lookout/record.forms", laid_lookout_record_forms)], narrowed := true }
def RecordBackUptoSaid : Prop := recordBackUptoRow.holds Tryd.pinned (OpenSpec.upto recordBackSpec)

/-- 'lookoutlaw07.RecordOne', WHERE WHAT IT READS IS OF BULK AT MOST 1048576: true; the input reads as it did. -/
def recordOneUptoRow : OpenClaim := { program := "ytfphffkgacajdaadoor", sum := "d4aba5fdbca8334057c64d11354201affacbed8179fc13f8541a120a21520d82", func := "lookout/lookoutlaw07.RecordOne", spec := "recordOne", unfollowed := true, recurses := true, named := ["lookout/record.forms", "lookout/crc.turns", "internal/strconv.uint64pow10", "math/bits.deBruijn32tab", "math/bits.deBruijn64tab"], apart := false, laid := [("lookout/crc.turns", laid_lookout_crc_turns), ("math/bits.deBruijn32tab", laid_math_bits_deBruijn32tab), ("math/bits.deBruijn64tab", laid_math_bits_deBruijn64tab), ("internal/strconv.uint64pow10", laid_internal_strconv_uint64pow10), ("lookout/record.forms", laid_lookout_record_forms)], narrowed := true }
def RecordOneUptoSaid : Prop := recordOneUptoRow.holds Tryd.pinned (OpenSpec.upto recordOneSpec)

/-- 'lookoutlaw07.RecordApart', WHERE WHAT IT READS IS OF BULK AT MOST 1048576: true; the input reads as it did. -/
def recordApartUptoRow : OpenClaim := { program := "ytfphffkgacajdaadoor", sum := "d4aba5fdbca8334057c64d11354201affacbed8179fc13f8541a120a21520d82", func := "lookout/lookoutlaw07.RecordApart", spec := "recordApart", unfollowed := true, recurses := true, named := ["lookout/record.forms", "lookout/crc.turns", "internal/strconv.uint64pow10", "math/bits.deBruijn32tab", "math/bits.deBruijn64tab"], apart := false, laid := [("lookout/crc.turns", laid_lookout_crc_turns), ("math/bits.deBruijn32tab", laid_math_bits_deBruijn32tab), ("math/bits.deBruijn64tab", laid_math_bits_deBruijn64tab), ("internal/strconv.uint64pow10", laid_internal_strconv_uint64pow10), ("lookout/record.forms", laid_lookout_record_forms)], narrowed := true }
def RecordApartUptoSaid : Prop := recordApartUptoRow.holds Tryd.pinned (OpenSpec.upto recordApartSpec)

end Rows
end Go.Proofs.YtfphffkgacajdaaDoor
