/-
  NARROWER THAN 'FOR EVERY INPUT', by the rows' own cells (each row's printed sentence says how): FrameItems: laid · SatSpans: laid · StatsPlays: laid · StatsShows: laid · StatsBuckets: laid · StatsOrder: laid · RecordPuts: laid · RecordTakes: laid · RecordAll: laid · RecordBack: laid · RecordOne: laid · RecordApart: laid.
  DERIVED. THE GIVEN ROWS OF THIS SEAT. 12 by the template 'for every input the law returns true; each argument reads behind the call as it read before'; 0 by the template 'total and deterministic' (their statements: YtdmpopdacbdnlaaDoorTotals.lean).
  GIVEN WITH THE SEED: the statements are not yours to turn. If you find one false, say at which input.
  Laid BY PROGRAM, IN A SANDBOX (cutbox-rows.mjs): the forced cells as the released guide's own fill.sh prints them over the translation f8e6fd00b3ef47c0… (all of the seat's roots in one cut). By AI agents, Wed Nov 11 2026. No macro, syntax, notation, axiom, sorry.
-/
import Derived.Test.YtdmpopdacbdnlaaDoorChecked
import GoSem.Claim
import GoSem.ClaimJoined
import GoSem.ClaimMapViews
import Derived.JoinedTies
import Derived.KernelRfl
namespace Go.Proofs.YtdmpopdacbdnlaaDoor
/- THE CELL 'sum', in the pinned program and in every row, IS THE sha256 OF THE DUMP (.gsa) THAT YtdmpopdacbdnlaaDoorProg.lean LOADS. Nothing in Lean hashes anything: it is a label: what it is worth is what the hold of that sum in a sandbox is worth. -/
noncomputable def Tryd.pinned : Pinned := { name := "ytdmpopdacbdnlaadoor", sum := "f8e6fd00b3ef47c014b5fca461d9c18679b51552112235c1904234484bcd8914", checked := Tryd.checked }
namespace Rows
def none {H : Type} : Left H := { results := [], args := [] }

/- WHAT THE LISTED PACKAGE-LEVEL VARIABLES READ AS WHEN THE CALL BEGINS. Each datum BY PROGRAM (the guide's laid-datum.mjs) off the statement by which the dump's own 'gosem.cut.vars' lays the variable. In a bare row this is a premise. The card (YtdmpopdacbdnlaaDoorCards.lean) ties it to the program's text. -/
def laid_lookout_crc_turns {H : Type} : DataW H := .agg [.lit (.int .u32 0), .lit (.int .u32 8801531), .lit (.int .u32 9098509), .lit (.int .u32 825846), .lit (.int .u32 9692897), .lit (.int .u32 1419802), .lit (.int .u32 1651692), .lit (.int .u32 10452759), .lit (.int .u32 10584377), .lit (.int .u32 2608578), .lit (.int .u32 2839604), .lit (.int .u32 11344079), .lit (.int .u32 3303384), .lit (.int .u32 11807523), .lit (.int .u32 12104405), .lit (.int .u32 4128302)]
def laid_math_bits_deBruijn32tab {H : Type} : DataW H := .agg [.lit (.int .u8 0), .lit (.int .u8 1), .lit (.int .u8 28), .lit (.int .u8 2), .lit (.int .u8 29), .lit (.int .u8 14), .lit (.int .u8 24), .lit (.int .u8 3), .lit (.int .u8 30), .lit (.int .u8 22), .lit (.int .u8 20), .lit (.int .u8 15), .lit (.int .u8 25), .lit (.int .u8 17), .lit (.int .u8 4), .lit (.int .u8 8), .lit (.int .u8 31), .lit (.int .u8 27), .lit (.int .u8 13), .lit (.int .u8 23), .lit (.int .u8 21), .lit (.int .u8 19), .lit (.int .u8 16), .lit (.int .u8 7), .lit (.int .u8 26), .lit (.int .u8 12), .lit (.int .u8 18), .lit (.int .u8 6), .lit (.int .u8 11), .lit (.int .u8 5), .lit (.int .u8 10), .lit (.int .u8 9)]
def laid_math_bits_deBruijn64tab {H : Type} : DataW H := .agg [.lit (.int .u8 0), .lit (.int .u8 1), .lit (.int .u8 56), .lit (.int .u8 2), .lit (.int .u8 57), .lit (.int .u8 49), .lit (.int .u8 28), .lit (.int .u8 3), .lit (.int .u8 61), .lit (.int .u8 58), .lit (.int .u8 42), .lit (.int .u8 50), .lit (.int .u8 38), .lit (.int .u8 29), .lit (.int .u8 17), .lit (.int .u8 4), .lit (.int .u8 62), .lit (.int .u8 47), .lit (.int .u8 59), .lit (.int .u8 36), .lit (.int .u8 45), .lit (.int .u8 43), .lit (.int .u8 51), .lit (.int .u8 22), .lit (.int .u8 53), .lit (.int .u8 39), .lit (.int .u8 33), .lit (.int .u8 30), .lit (.int .u8 24), .lit (.int .u8 18), .lit (.int .u8 12), .lit (.int .u8 5), .lit (.int .u8 63), .lit (.int .u8 55), .lit (.int .u8 48), .lit (.int .u8 27), .lit (.int .u8 60), .lit (.int .u8 41), .lit (.int .u8 37), .lit (.int .u8 16), .lit (.int .u8 46), .lit (.int .u8 35), .lit (.int .u8 44), .lit (.int .u8 21), .lit (.int .u8 52), .lit (.int .u8 32), .lit (.int .u8 23), .lit (.int .u8 11), .lit (.int .u8 54), .lit (.int .u8 26), .lit (.int .u8 40), .lit (.int .u8 15), .lit (.int .u8 34), .lit (.int .u8 20), .lit (.int .u8 31), .lit (.int .u8 10), .lit (.int .u8 25), .lit (.int .u8 14), .lit (.int .u8 19), .lit (.int .u8 9), .lit (.int .u8 13), .lit (.int .u8 8), .lit (.int .u8 7), .lit (.int .u8 6)]
def laid_internal_strconv_uint64pow10 {H : Type} : DataW H := .agg [.lit (.int .u64 1), .lit (.int .u64 10), .lit (.int .u64 100), .lit (.int .u64 1000), .lit (.int .u64 10000), .lit (.int .u64 100000), .lit (.int .u64 1000000), .lit (.int .u64 10000000), .lit (.int .u64 100000000), .lit (.int .u64 1000000000), .lit (.int .u64 10000000000), .lit (.int .u64 100000000000), .lit (.int .u64 1000000000000), .lit (.int .u64 10000000000000), .lit (.int .u64 100000000000000), .lit (.int .u64 1000000000000000), .lit (.int .u64 10000000000000000), .lit (.int .u64 100000000000000000), .lit (.int .u64 1000000000000000000), .lit (.int .u64 10000000000000000000)]
def laid_lookout_record_forms {H : Type} : DataW H := .agg [.agg [.lit (.string [109, 97, 108, 102, 111, 114, 109, 101, 100]), .lit (.string [115, 110])], .agg [.lit (.string [119, 114, 111, 110, 103]), .lit (.string [115, 99])], .agg [.lit (.string [114, 101, 102, 117, 115, 101, 100]), .lit (.string [115, 99])], .agg [.lit (.string [114, 101, 106, 101, 99, 116, 101, 100]), .lit (.string [115, 113, 97, 99])], .agg [.lit (.string [115, 104, 101, 100]), .lit (.string [115, 113, 97])], .agg [.lit (.string [108, 97, 116, 101]), .lit (.string [115, 113, 97])], .agg [.lit (.string [97, 99, 99, 101, 112, 116, 101, 100]), .lit (.string [115, 113, 97])], .agg [.lit (.string [103, 97, 112]), .lit (.string [115, 113])], .agg [.lit (.string [115, 117, 115, 112, 101, 99, 116]), .lit (.string [115, 97])], .agg [.lit (.string [114, 101, 106, 111, 105, 110]), .lit (.string [115])], .agg [.lit (.string [111, 118, 101, 114, 102, 108, 111, 119]), .lit (.string [99, 97])], .agg [.lit (.string [112, 114, 111, 118, 105, 115, 105, 111, 110, 97, 108]), .lit (.string [97, 121])], .agg [.lit (.string [114, 101, 116, 114, 97, 99, 116, 105, 111, 110]), .lit (.string [97, 121])], .agg [.lit (.string [102, 105, 110, 97, 108]), .lit (.string [97, 121])], .agg [.lit (.string [108, 97, 116, 101, 110, 99, 121]), .lit (.string [97, 110])], .agg [.lit (.string [115, 117, 109, 109, 97, 114, 121]), .lit (.string [116])]]

/-- 'lookoutlaw04.FrameItems': WHATEVER THE INPUT: true; the input reads as it did. -/
def frameItemsSpec : ChangeSpec := { name := "frameItems", fn := fun _ => fun
  | [d1, d2] => { results := [.lit (.bool true)], args := [d1, d2] }
  | _ => none }
def frameItemsRow : OpenClaim := { program := "ytdmpopdacbdnlaadoor", sum := "f8e6fd00b3ef47c014b5fca461d9c18679b51552112235c1904234484bcd8914", func := "lookout/lookoutlaw04.FrameItems", spec := "frameItems", unfollowed := true, recurses := true, named := ["lookout/crc.turns"], apart := false, laid := [("lookout/crc.turns", laid_lookout_crc_turns)] }
def FrameItemsSaid : Prop := frameItemsRow.holds Tryd.pinned (OpenSpec.ofChange frameItemsSpec)

/-- ITS FALSE NEIGHBOUR: 'it returns false'. Refute it at one input. -/
def frameItemsWrong : ChangeSpec := { name := "frameItems", fn := fun _ => fun
  | [d1, d2] => { results := [.lit (.bool false)], args := [d1, d2] }
  | _ => none }
def FrameItemsWrongFalsely : Prop := frameItemsRow.holds Tryd.pinned (OpenSpec.ofChange frameItemsWrong)

/-- 'lookoutlaw02.SatSpans': WHATEVER THE INPUT: true; the input reads as it did. -/
def satSpansSpec : ChangeSpec := { name := "satSpans", fn := fun _ => fun
  | [d1, d2, d3, d4] => { results := [.lit (.bool true)], args := [d1, d2, d3, d4] }
  | _ => none }
def satSpansRow : OpenClaim := { program := "ytdmpopdacbdnlaadoor", sum := "f8e6fd00b3ef47c014b5fca461d9c18679b51552112235c1904234484bcd8914", func := "lookout/lookoutlaw02.SatSpans", spec := "satSpans", named := ["internal/strconv.uint64pow10", "math/bits.deBruijn32tab", "math/bits.deBruijn64tab"], apart := false, laid := [("math/bits.deBruijn32tab", laid_math_bits_deBruijn32tab), ("math/bits.deBruijn64tab", laid_math_bits_deBruijn64tab), ("internal/strconv.uint64pow10", laid_internal_strconv_uint64pow10)] }
def SatSpansSaid : Prop := satSpansRow.holds Tryd.pinned (OpenSpec.ofChange satSpansSpec)

/-- ITS FALSE NEIGHBOUR: 'it returns false'. Refute it at one input. -/
def satSpansWrong : ChangeSpec := { name := "satSpans", fn := fun _ => fun
  | [d1, d2, d3, d4] => { results := [.lit (.bool false)], args := [d1, d2, d3, d4] }
  | _ => none }
def SatSpansWrongFalsely : Prop := satSpansRow.holds Tryd.pinned (OpenSpec.ofChange satSpansWrong)

/-- 'lookoutlaw25.StatsPlays': WHATEVER THE INPUT: true; the input reads as it did. -/
def statsPlaysSpec : ChangeSpec := { name := "statsPlays", fn := fun _ => fun
  | [d1, d2, d3, d4, d5] => { results := [.lit (.bool true)], args := [d1, d2, d3, d4, d5] }
  | _ => none }
def statsPlaysRow : OpenClaim := { program := "ytdmpopdacbdnlaadoor", sum := "f8e6fd00b3ef47c014b5fca461d9c18679b51552112235c1904234484bcd8914", func := "lookout/lookoutlaw25.StatsPlays", spec := "statsPlays", unfollowed := true, recurses := true, named := ["lookout/record.forms", "internal/strconv.uint64pow10", "math/bits.deBruijn32tab", "math/bits.deBruijn64tab"], apart := false, laid := [("math/bits.deBruijn32tab", laid_math_bits_deBruijn32tab), ("math/bits.deBruijn64tab", laid_math_bits_deBruijn64tab), ("internal/strconv.uint64pow10", laid_internal_strconv_uint64pow10), ("lookout/record.forms", laid_lookout_record_forms)] }
def StatsPlaysSaid : Prop := statsPlaysRow.holds Tryd.pinned (OpenSpec.ofChange statsPlaysSpec)

/-- ITS FALSE NEIGHBOUR: 'it returns false'. Refute it at one input. -/
def statsPlaysWrong : ChangeSpec := { name := "statsPlays", fn := fun _ => fun
  | [d1, d2, d3, d4, d5] => { results := [.lit (.bool false)], args := [d1, d2, d3, d4, d5] }
  | _ => none }
def StatsPlaysWrongFalsely : Prop := statsPlaysRow.holds Tryd.pinned (OpenSpec.ofChange statsPlaysWrong)

/-- 'lookoutlaw25.StatsShows': WHATEVER THE INPUT: true; the input reads as it did. -/
def statsShowsSpec : ChangeSpec := { name := "statsShows", fn := fun _ => fun
  | [d1, d2, d3] => { results := [.lit (.bool true)], args := [d1, d2, d3] }
  | _ => none }
def statsShowsRow : OpenClaim := { program := "ytdmpopdacbdnlaadoor", sum := "f8e6fd00b3ef47c014b5fca461d9c18679b51552112235c1904234484bcd8914", func := "lookout/lookoutlaw25.StatsShows", spec := "statsShows", unfollowed := true, recurses := true, named := ["lookout/record.forms", "internal/strconv.uint64pow10", "math/bits.deBruijn32tab", "math/bits.deBruijn64tab"], apart := false, laid := [("math/bits.deBruijn32tab", laid_math_bits_deBruijn32tab), ("math/bits.deBruijn64tab", laid_math_bits_deBruijn64tab), ("internal/strconv.uint64pow10", laid_internal_strconv_uint64pow10), ("lookout/record.forms", laid_lookout_record_forms)] }
def StatsShowsSaid : Prop := statsShowsRow.holds Tryd.pinned (OpenSpec.ofChange statsShowsSpec)

/-- ITS FALSE NEIGHBOUR: 'it returns false'. Refute it at one input. -/
def statsShowsWrong : ChangeSpec := { name := "statsShows", fn := fun _ => fun
  | [d1, d2, d3] => { results := [.lit (.bool false)], args := [d1, d2, d3] }
  | _ => none }
def StatsShowsWrongFalsely : Prop := statsShowsRow.holds Tryd.pinned (OpenSpec.ofChange statsShowsWrong)

/-- 'lookoutlaw25.StatsBuckets': WHATEVER THE INPUT: true; the input reads as it did. -/
def statsBucketsSpec : ChangeSpec := { name := "statsBuckets", fn := fun _ => fun
  | [d1, d2, d3] => { results := [.lit (.bool true)], args := [d1, d2, d3] }
  | _ => none }
def statsBucketsRow : OpenClaim := { program := "ytdmpopdacbdnlaadoor", sum := "f8e6fd00b3ef47c014b5fca461d9c18679b51552112235c1904234484bcd8914", func := "lookout/lookoutlaw25.StatsBuckets", spec := "statsBuckets", unfollowed := true, recurses := true, named := ["lookout/record.forms", "internal/strconv.uint64pow10", "math/bits.deBruijn32tab", "math/bits.deBruijn64tab"], apart := false, laid := [("math/bits.deBruijn32tab", laid_math_bits_deBruijn32tab), ("math/bits.deBruijn64tab", laid_math_bits_deBruijn64tab), ("internal/strconv.uint64pow10", laid_internal_strconv_uint64pow10), ("lookout/record.forms", laid_lookout_record_forms)] }
def StatsBucketsSaid : Prop := statsBucketsRow.holds Tryd.pinned (OpenSpec.ofChange statsBucketsSpec)

/-- ITS FALSE NEIGHBOUR: 'it returns false'. Refute it at one input. -/
def statsBucketsWrong : ChangeSpec := { name := "statsBuckets", fn := fun _ => fun
  | [d1, d2, d3] => { results := [.lit (.bool false)], args := [d1, d2, d3] }
  | _ => none }
def StatsBucketsWrongFalsely : Prop := statsBucketsRow.holds Tryd.pinned (OpenSpec.ofChange statsBucketsWrong)

/-- 'lookoutlaw25.StatsOrder': WHATEVER THE INPUT: true; the input reads as it did. -/
def statsOrderSpec : ChangeSpec := { name := "statsOrder", fn := fun _ => fun
  | [d1, d2, d3] => { results := [.lit (.bool true)], args := [d1, d2, d3] }
  | _ => none }
def statsOrderRow : OpenClaim := { program := "ytdmpopdacbdnlaadoor", sum := "f8e6fd00b3ef47c014b5fca461d9c18679b51552112235c1904234484bcd8914", func := "lookout/lookoutlaw25.StatsOrder", spec := "statsOrder", unfollowed := true, recurses := true, named := ["lookout/record.forms", "internal/strconv.uint64pow10", "math/bits.deBruijn32tab", "math/bits.deBruijn64tab"], apart := false, laid := [("math/bits.deBruijn32tab", laid_math_bits_deBruijn32tab), ("math/bits.deBruijn64tab", laid_math_bits_deBruijn64tab), ("internal/strconv.uint64pow10", laid_internal_strconv_uint64pow10), ("lookout/record.forms", laid_lookout_record_forms)] }
def StatsOrderSaid : Prop := statsOrderRow.holds Tryd.pinned (OpenSpec.ofChange statsOrderSpec)

/-- ITS FALSE NEIGHBOUR: 'it returns false'. Refute it at one input. -/
def statsOrderWrong : ChangeSpec := { name := "statsOrder", fn := fun _ => fun
  | [d1, d2, d3] => { results := [.lit (.bool false)], args := [d1, d2, d3] }
  | _ => none }
def StatsOrderWrongFalsely : Prop := statsOrderRow.holds Tryd.pinned (OpenSpec.ofChange statsOrderWrong)

/-- 'lookoutlaw07.RecordPuts': WHATEVER THE INPUT: true; the input reads as it did. -/
def recordPutsSpec : ChangeSpec := { name := "recordPuts", fn := fun _ => fun
  | [d] => { results := [.lit (.bool true)], args := [d] }
  | _ => none }
def recordPutsRow : OpenClaim := { program := "ytdmpopdacbdnlaadoor", sum := "f8e6fd00b3ef47c014b5fca461d9c18679b51552112235c1904234484bcd8914", func := "lookout/lookoutlaw07.RecordPuts", spec := "recordPuts", unfollowed := true, recurses := true, named := ["lookout/record.forms", "lookout/crc.turns", "internal/strconv.uint64pow10", "math/bits.deBruijn32tab", "math/bits.deBruijn64tab"], apart := false, laid := [("lookout/crc.turns", laid_lookout_crc_turns), ("math/bits.deBruijn32tab", laid_math_bits_deBruijn32tab), ("math/bits.deBruijn64tab", laid_math_bits_deBruijn64tab), ("internal/strconv.uint64pow10", laid_internal_strconv_uint64pow10), ("lookout/record.forms", laid_lookout_record_forms)] }
def RecordPutsSaid : Prop := recordPutsRow.holds Tryd.pinned (OpenSpec.ofChange recordPutsSpec)

/-- ITS FALSE NEIGHBOUR: 'it returns false'. Refute it at one input. -/
def recordPutsWrong : ChangeSpec := { name := "recordPuts", fn := fun _ => fun
  | [d] => { results := [.lit (.bool false)], args := [d] }
  | _ => none }
def RecordPutsWrongFalsely : Prop := recordPutsRow.holds Tryd.pinned (OpenSpec.ofChange recordPutsWrong)

/-- 'lookoutlaw07.RecordTakes': WHATEVER THE INPUT: true; the input reads as it did. -/
def recordTakesSpec : ChangeSpec := { name := "recordTakes", fn := fun _ => fun
  | [d1, d2] => { results := [.lit (.bool true)], args := [d1, d2] }
  | _ => none }
def recordTakesRow : OpenClaim := { program := "ytdmpopdacbdnlaadoor", sum := "f8e6fd00b3ef47c014b5fca461d9c18679b51552112235c1904234484bcd8914", func := "lookout/lookoutlaw07.RecordTakes", spec := "recordTakes", unfollowed := true, recurses := true, named := ["lookout/record.forms", "lookout/crc.turns", "internal/strconv.uint64pow10", "math/bits.deBruijn32tab", "math/bits.deBruijn64tab"], apart := false, laid := [("lookout/crc.turns", laid_lookout_crc_turns), ("math/bits.deBruijn32tab", laid_math_bits_deBruijn32tab), ("math/bits.deBruijn64tab", laid_math_bits_deBruijn64tab), ("internal/strconv.uint64pow10", laid_internal_strconv_uint64pow10), ("lookout/record.forms", laid_lookout_record_forms)] }
def RecordTakesSaid : Prop := recordTakesRow.holds Tryd.pinned (OpenSpec.ofChange recordTakesSpec)

/-- ITS FALSE NEIGHBOUR: 'it returns false'. Refute it at one input. -/
def recordTakesWrong : ChangeSpec := { name := "recordTakes", fn := fun _ => fun
  | [d1, d2] => { results := [.lit (.bool false)], args := [d1, d2] }
  | _ => none }
def RecordTakesWrongFalsely : Prop := recordTakesRow.holds Tryd.pinned (OpenSpec.ofChange recordTakesWrong)

/-- 'lookoutlaw07.RecordAll': WHATEVER THE INPUT: true; the input reads as it did. -/
def recordAllSpec : ChangeSpec := { name := "recordAll", fn := fun _ => fun
  | [d] => { results := [.lit (.bool true)], args := [d] }
  | _ => none }
def recordAllRow : OpenClaim := { program := "ytdmpopdacbdnlaadoor", sum := "f8e6fd00b3ef47c014b5fca461d9c18679b51552112235c1904234484bcd8914", func := "lookout/lookoutlaw07.RecordAll", spec := "recordAll", unfollowed := true, recurses := true, named := ["lookout/record.forms", "lookout/crc.turns", "internal/strconv.uint64pow10", "math/bits.deBruijn32tab", "math/bits.deBruijn64tab"], apart := false, laid := [("lookout/crc.turns", laid_lookout_crc_turns), ("math/bits.deBruijn32tab", laid_math_bits_deBruijn32tab), ("math/bits.deBruijn64tab", laid_math_bits_deBruijn64tab), ("internal/strconv.uint64pow10", laid_internal_strconv_uint64pow10), ("lookout/record.forms", laid_lookout_record_forms)] }
def RecordAllSaid : Prop := recordAllRow.holds Tryd.pinned (OpenSpec.ofChange recordAllSpec)

/-- ITS FALSE NEIGHBOUR: 'it returns false'. Refute it at one input. -/
def recordAllWrong : ChangeSpec := { name := "recordAll", fn := fun _ => fun
  | [d] => { results := [.lit (.bool false)], args := [d] }
  | _ => none }
def RecordAllWrongFalsely : Prop := recordAllRow.holds Tryd.pinned (OpenSpec.ofChange recordAllWrong)

/-- 'lookoutlaw07.RecordBack': WHATEVER THE INPUT: true; the input reads as it did. -/
def recordBackSpec : ChangeSpec := { name := "recordBack", fn := fun _ => fun
  | [d] => { results := [.lit (.bool true)], args := [d] }
  | _ => none }
def recordBackRow : OpenClaim := { program := "ytdmpopdacbdnlaadoor", sum := "f8e6fd00b3ef47c014b5fca461d9c18679b51552112235c1904234484bcd8914", func := "lookout/lookoutlaw07.RecordBack", spec := "recordBack", unfollowed := true, recurses := true, named := ["lookout/record.forms", "lookout/crc.turns", "internal/strconv.uint64pow10", "math/bits.deBruijn32tab", "math/bits.deBruijn64tab"], apart := false, laid := [("lookout/crc.turns", laid_lookout_crc_turns), ("math/bits.deBruijn32tab", laid_math_bits_deBruijn32tab), ("math/bits.deBruijn64tab", laid_math_bits_deBruijn64tab), ("internal/strconv.uint64pow10", laid_internal_strconv_uint64pow10), ("lookout/record.forms", laid_lookout_record_forms)] }
def RecordBackSaid : Prop := recordBackRow.holds Tryd.pinned (OpenSpec.ofChange recordBackSpec)

/-- ITS FALSE NEIGHBOUR: 'it returns false'. Refute it at one input. -/
def recordBackWrong : ChangeSpec := { name := "recordBack", fn := fun _ => fun
  | [d] => { results := [.lit (.bool false)], args := [d] }
  | _ => none }
def RecordBackWrongFalsely : Prop := recordBackRow.holds Tryd.pinned (OpenSpec.ofChange recordBackWrong)

/-- 'lookoutlaw07.RecordOne': WHATEVER THE INPUT: true; the input reads as it did. -/
def recordOneSpec : ChangeSpec := { name := "recordOne", fn := fun _ => fun
  | [d1, d2] => { results := [.lit (.bool true)], args := [d1, d2] }
  | _ => none }
def recordOneRow : OpenClaim := { program := "ytdmpopdacbdnlaadoor", sum := "f8e6fd00b3ef47c014b5fca461d9c18679b51552112235c1904234484bcd8914", func := "lookout/lookoutlaw07.RecordOne", spec := "recordOne", unfollowed := true, recurses := true, named := ["lookout/record.forms", "lookout/crc.turns", "internal/strconv.uint64pow10", "math/bits.deBruijn32tab", "math/bits.deBruijn64tab"], apart := false, laid := [("lookout/crc.turns", laid_lookout_crc_turns), ("math/bits.deBruijn32tab", laid_math_bits_deBruijn32tab), ("math/bits.deBruijn64tab", laid_math_bits_deBruijn64tab), ("internal/strconv.uint64pow10", laid_internal_strconv_uint64pow10), ("lookout/record.forms", laid_lookout_record_forms)] }
def RecordOneSaid : Prop := recordOneRow.holds Tryd.pinned (OpenSpec.ofChange recordOneSpec)

/-- ITS FALSE NEIGHBOUR: 'it returns false'. Refute it at one input. -/
def recordOneWrong : ChangeSpec := { name := "recordOne", fn := fun _ => fun
  | [d1, d2] => { results := [.lit (.bool false)], args := [d1, d2] }
  | _ => none }
def RecordOneWrongFalsely : Prop := recordOneRow.holds Tryd.pinned (OpenSpec.ofChange recordOneWrong)

/-- 'lookoutlaw07.RecordApart': WHATEVER THE INPUT: true; the input reads as it did. -/
def recordApartSpec : ChangeSpec := { name := "recordApart", fn := fun _ => fun
  | [d1, d2] => { results := [.lit (.bool true)], args := [d1, d2] }
  | _ => none }
def recordApartRow : OpenClaim := { program := "ytdmpopdacbdnlaadoor", sum := "f8e6fd00b3ef47c014b5fca461d9c18679b51552112235c1904234484bcd8914", func := "lookout/lookoutlaw07.RecordApart", spec := "recordApart", unfollowed := true, recurses := true, named := ["lookout/record.forms", "lookout/crc.turns", "internal/strconv.uint64pow10", "math/bits.deBruijn32tab", "math/bits.deBruijn64tab"], apart := false, laid := [("lookout/crc.turns", laid_lookout_crc_turns), ("math/bits.deBruijn32tab", laid_math_bits_deBruijn32tab), ("math/bits.deBruijn64tab", laid_math_bits_deBruijn64tab), ("internal/strconv.uint64pow10", laid_internal_strconv_uint64pow10), ("lookout/record.forms", laid_lookout_record_forms)] }
def RecordApartSaid : Prop := recordApartRow.holds Tryd.pinned (OpenSpec.ofChange recordApartSpec)

/-- ITS FALSE NEIGHBOUR: 'it returns false'. Refute it at one input. -/
def recordApartWrong : ChangeSpec := { name := "recordApart", fn := fun _ => fun
  | [d1, d2] => { results := [.lit (.bool false)], args := [d1, d2] }
  | _ => none }
def RecordApartWrongFalsely : Prop := recordApartRow.holds Tryd.pinned (OpenSpec.ofChange recordApartWrong)

/- THE SECOND FORM. 'bulk': how many values and letters a reading holds, each counted each time it is reached (what is shared counts as often as it is met; a slice's spare places count too). A statement '..UptoSaid' is the law's where the arguments, and the package variables that the reading takes, are together of bulk at most 1048576: NARROWER than '..Said'. Prove '..Said' where nothing that the law and all that it calls make is longer than what came in: it says more and counts as full. Else prove '..UptoSaid'. A law counts once. -/
mutual
def uptoBulk {H : Type} : DataW H → Nat
  | .lit (.string bytes) => bytes.length + 1
  | .lit _ => 1
  | .nil => 1
  | .ptr d => uptoBulk d + 1
  | .slice elems spare => uptoBulkAll elems + uptoBulkAll spare + 1
  | .agg parts => uptoBulkAll parts + 1
  | .iface _ d => uptoBulk d + 1
  | .map entries => uptoBulkEntries entries + 1
  | .held _ => 1
def uptoBulkAll {H : Type} : List (DataW H) → Nat
  | [] => 0
  | d :: r => uptoBulk d + uptoBulkAll r
def uptoBulkEntries {H : Type} : List (Lit × DataW H) → Nat
  | [] => 0
  | x :: r => uptoBulkEntry x + uptoBulkEntries r
def uptoBulkEntry {H : Type} : Lit × DataW H → Nat
  | (.string bytes, d) => bytes.length + uptoBulk d + 1
  | (_, d) => uptoBulk d + 1
 end
def uptoSmall : (H : Type) → List (DataW H) → Bool := fun _ ds => decide (uptoBulkAll ds ≤ 1048576)
def OpenSpec.upto (s : _root_.Go.ChangeSpec) : _root_.Go.OpenSpec := { _root_.Go.OpenSpec.ofChange s with cond := some uptoSmall }

/-- 'lookoutlaw04.FrameItems', WHERE WHAT IT READS IS OF BULK AT MOST 1048576: true; the input reads as it did. -/
def frameItemsUptoRow : OpenClaim := { program := "ytdmpopdacbdnlaadoor", sum := "f8e6fd00b3ef47c014b5fca461d9c18679b51552112235c1904234484bcd8914", func := "lookout/lookoutlaw04.FrameItems", spec := "frameItems", unfollowed := true, recurses := true, named := ["lookout/crc.turns"], apart := false, laid := [("lookout/crc.turns", laid_lookout_crc_turns)], narrowed := true }
def FrameItemsUptoSaid : Prop := frameItemsUptoRow.holds Tryd.pinned (OpenSpec.upto frameItemsSpec)

/-- 'lookoutlaw02.SatSpans', WHERE WHAT IT READS IS OF BULK AT MOST 1048576: true; the input reads as it did. -/
def satSpansUptoRow : OpenClaim := { program := "ytdmpopdacbdnlaadoor", sum := "f8e6fd00b3ef47c014b5fca461d9c18679b51552112235c1904234484bcd8914", func := "lookout/lookoutlaw02.SatSpans", spec := "satSpans", named := ["internal/strconv.uint64pow10", "math/bits.deBruijn32tab", "math/bits.deBruijn64tab"], apart := false, laid := [("math/bits.deBruijn32tab", laid_math_bits_deBruijn32tab), ("math/bits.deBruijn64tab", laid_math_bits_deBruijn64tab), ("internal/strconv.uint64pow10", laid_internal_strconv_uint64pow10)], narrowed := true }
def SatSpansUptoSaid : Prop := satSpansUptoRow.holds Tryd.pinned (OpenSpec.upto satSpansSpec)

/-- 'lookoutlaw25.StatsPlays', WHERE WHAT IT READS IS OF BULK AT MOST 1048576: true; the input reads as it did. -/
def statsPlaysUptoRow : OpenClaim := { program := "ytdmpopdacbdnlaadoor", sum := "f8e6fd00b3ef47c014b5fca461d9c18679b51552112235c1904234484bcd8914", func := "lookout/lookoutlaw25.StatsPlays", spec := "statsPlays", unfollowed := true, recurses := true, named := ["lookout/record.forms", "internal/strconv.uint64pow10", "math/bits.deBruijn32tab", "math/bits.deBruijn64tab"], apart := false, laid := [("math/bits.deBruijn32tab", laid_math_bits_deBruijn32tab), ("math/bits.deBruijn64tab", laid_math_bits_deBruijn64tab), ("internal/strconv.uint64pow10", laid_internal_strconv_uint64pow10), ("lookout/record.forms", laid_lookout_record_forms)], narrowed := true }
def StatsPlaysUptoSaid : Prop := statsPlaysUptoRow.holds Tryd.pinned (OpenSpec.upto statsPlaysSpec)

/-- 'lookoutlaw25.StatsShows', WHERE WHAT IT READS IS OF BULK AT MOST 1048576: true; the input reads as it did. -/
def statsShowsUptoRow : OpenClaim := { program := "ytdmpopdacbdnlaadoor", sum := "f8e6fd00b3ef47c014b5fca461d9c18679b51552112235c1904234484bcd8914", func := "lookout/lookoutlaw25.StatsShows", spec := "statsShows", unfollowed := true, recurses := true, named := ["lookout/record.forms", "internal/strconv.uint64pow10", "math/bits.deBruijn32tab", "math/bits.deBruijn64tab"], apart := false, laid := [("math/bits.deBruijn32tab", laid_math_bits_deBruijn32tab), ("math/bits.deBruijn64tab", laid_math_bits_deBruijn64tab), ("internal/strconv.uint64pow10", laid_internal_strconv_uint64pow10), ("lookout/record.forms", laid_lookout_record_forms)], narrowed := true }
def StatsShowsUptoSaid : Prop := statsShowsUptoRow.holds Tryd.pinned (OpenSpec.upto statsShowsSpec)

/-- 'lookoutlaw25.StatsBuckets', WHERE WHAT IT READS IS OF BULK AT MOST 1048576: true; the input reads as it did. -/
def statsBucketsUptoRow : OpenClaim := { program := "ytdmpopdacbdnlaadoor", sum := "f8e6fd00b3ef47c014b5fca461d9c18679b51552112235c1904234484bcd8914", func := "lookout/lookoutlaw25.StatsBuckets", spec := "statsBuckets", unfollowed := true, recurses := true, named := ["lookout/record.forms", "internal/strconv.uint64pow10", "math/bits.deBruijn32tab", "math/bits.deBruijn64tab"], apart := false, laid := [("math/bits.deBruijn32tab", laid_math_bits_deBruijn32tab), ("math/bits.deBruijn64tab", laid_math_bits_deBruijn64tab), ("internal/strconv.uint64pow10", laid_internal_strconv_uint64pow10), ("lookout/record.forms", laid_lookout_record_forms)], narrowed := true }
def StatsBucketsUptoSaid : Prop := statsBucketsUptoRow.holds Tryd.pinned (OpenSpec.upto statsBucketsSpec)

/-- 'lookoutlaw25.StatsOrder', WHERE WHAT IT READS IS OF BULK AT MOST 1048576: true; the input reads as it did. -/
def statsOrderUptoRow : OpenClaim := { program := "ytdmpopdacbdnlaadoor", sum := "f8e6fd00b3ef47c014b5fca461d9c18679b51552112235c1904234484bcd8914", func := "lookout/lookoutlaw25.StatsOrder", spec := "statsOrder", unfollowed := true, recurses := true, named := ["lookout/record.forms", "internal/strconv.uint64pow10", "math/bits.deBruijn32tab", "math/bits.deBruijn64tab"], apart := false, laid := [("math/bits.deBruijn32tab", laid_math_bits_deBruijn32tab), ("math/bits.deBruijn64tab", laid_math_bits_deBruijn64tab), ("internal/strconv.uint64pow10", laid_internal_strconv_uint64pow10), ("lookout/record.forms", laid_lookout_record_forms)], narrowed := true }
def StatsOrderUptoSaid : Prop := statsOrderUptoRow.holds Tryd.pinned (OpenSpec.upto statsOrderSpec)

/-- 'lookoutlaw07.RecordPuts', WHERE WHAT IT READS IS OF BULK AT MOST 1048576: true; the input reads as it did. -/
def recordPutsUptoRow : OpenClaim := { program := "ytdmpopdacbdnlaadoor", sum := "f8e6fd00b3ef47c014b5fca461d9c18679b51552112235c1904234484bcd8914", func := "lookout/lookoutlaw07.RecordPuts", spec := "recordPuts", unfollowed := true, recurses := true, named := ["lookout/record.forms", "lookout/crc.turns", "internal/strconv.uint64pow10", "math/bits.deBruijn32tab", "math/bits.deBruijn64tab"], apart := false, laid := [("lookout/crc.turns", laid_lookout_crc_turns), ("math/bits.deBruijn32tab", laid_math_bits_deBruijn32tab), ("math/bits.deBruijn64tab", laid_math_bits_deBruijn64tab), ("internal/strconv.uint64pow10", laid_internal_strconv_uint64pow10), ("lookout/record.forms", laid_lookout_record_forms)], narrowed := true }
def RecordPutsUptoSaid : Prop := recordPutsUptoRow.holds Tryd.pinned (OpenSpec.upto recordPutsSpec)

/-- 'lookoutlaw07.RecordTakes', WHERE WHAT IT READS IS OF BULK AT MOST 1048576: true; the input reads as it did. -/
def recordTakesUptoRow : OpenClaim := { program := "ytdmpopdacbdnlaadoor", sum := "f8e6fd00b3ef47c014b5fca461d9c18679b51552112235c1904234484bcd8914", func := "lookout/lookoutlaw07.RecordTakes", spec := "recordTakes", unfollowed := true, recurses := true, named := ["lookout/record.forms", "lookout/crc.turns", "internal/strconv.uint64pow10", "math/bits.deBruijn32tab", "math/bits.deBruijn64tab"], apart := false, laid := [("lookout/crc.turns", laid_lookout_crc_turns), ("math/bits.deBruijn32tab", laid_math_bits_deBruijn32tab), ("math/bits.deBruijn64tab", laid_math_bits_deBruijn64tab), ("internal/strconv.uint64pow10", laid_internal_strconv_uint64pow10), ("lookout/record.forms", laid_lookout_record_forms)], narrowed := true }
def RecordTakesUptoSaid : Prop := recordTakesUptoRow.holds Tryd.pinned (OpenSpec.upto recordTakesSpec)

/-- 'lookoutlaw07.RecordAll', WHERE WHAT IT READS IS OF BULK AT MOST 1048576: true; the input reads as it did. -/
def recordAllUptoRow : OpenClaim := { program := "ytdmpopdacbdnlaadoor", sum := "f8e6fd00b3ef47c014b5fca461d9c18679b51552112235c1904234484bcd8914", func := "lookout/lookoutlaw07.RecordAll", spec := "recordAll", unfollowed := true, recurses := true, named := ["lookout/record.forms", "lookout/crc.turns", "internal/strconv.uint64pow10", "math/bits.deBruijn32tab", "math/bits.deBruijn64tab"], apart := false, laid := [("lookout/crc.turns", laid_lookout_crc_turns), ("math/bits.deBruijn32tab", laid_math_bits_deBruijn32tab), ("math/bits.deBruijn64tab", laid_math_bits_deBruijn64tab), ("internal/strconv.uint64pow10", laid_internal_strconv_uint64pow10), ("lookout/record.forms", laid_lookout_record_forms)], narrowed := true }
def RecordAllUptoSaid : Prop := recordAllUptoRow.holds Tryd.pinned (OpenSpec.upto recordAllSpec)

/-- 'lookoutlaw07.RecordBack', WHERE WHAT IT READS IS OF BULK AT MOST 1048576: true; the input reads as it did. -/
def recordBackUptoRow : OpenClaim := { program := "ytdmpopdacbdnlaadoor", sum := "f8e6fd00b3ef47c014b5fca461d9c18679b51552112235c1904234484bcd8914", func := "lookout/lookoutlaw07.RecordBack", spec := "recordBack", unfollowed := true, recurses := true, named := ["lookout/record.forms", "lookout/crc.turns", "internal/strconv.uint64pow10", "math/bits.deBruijn32tab", "math/bits.deBruijn64tab"], apart := false, laid := [("lookout/crc.turns", laid_lookout_crc_turns), ("math/bits.deBruijn32tab", laid_math_bits_deBruijn32tab), ("math/bits.deBruijn64tab", laid_math_bits_deBruijn64tab), ("internal/strconv.uint64pow10", laid_internal_strconv_uint64pow10), ("lookout/record.forms", laid_lookout_record_forms)], narrowed := true }
def RecordBackUptoSaid : Prop := recordBackUptoRow.holds Tryd.pinned (OpenSpec.upto recordBackSpec)

/-- 'lookoutlaw07.RecordOne', WHERE WHAT IT READS IS OF BULK AT MOST 1048576: true; the input reads as it did. -/
def recordOneUptoRow : OpenClaim := { program := "ytdmpopdacbdnlaadoor", sum := "f8e6fd00b3ef47c014b5fca461d9c18679b51552112235c1904234484bcd8914", func := "lookout/lookoutlaw07.RecordOne", spec := "recordOne", unfollowed := true, recurses := true, named := ["lookout/record.forms", "lookout/crc.turns", "internal/strconv.uint64pow10", "math/bits.deBruijn32tab", "math/bits.deBruijn64tab"], apart := false, laid := [("lookout/crc.turns", laid_lookout_crc_turns), ("math/bits.deBruijn32tab", laid_math_bits_deBruijn32tab), ("math/bits.deBruijn64tab", laid_math_bits_deBruijn64tab), ("internal/strconv.uint64pow10", laid_internal_strconv_uint64pow10), ("lookout/record.forms", laid_lookout_record_forms)], narrowed := true }
def RecordOneUptoSaid : Prop := recordOneUptoRow.holds Tryd.pinned (OpenSpec.upto recordOneSpec)

/-- 'lookoutlaw07.RecordApart', WHERE WHAT IT READS IS OF BULK AT MOST 1048576: true; the input reads as it did. -/
def recordApartUptoRow : OpenClaim := { program := "ytdmpopdacbdnlaadoor", sum := "f8e6fd00b3ef47c014b5fca461d9c18679b51552112235c1904234484bcd8914", func := "lookout/lookoutlaw07.RecordApart", spec := "recordApart", unfollowed := true, recurses := true, named := ["lookout/record.forms", "lookout/crc.turns", "internal/strconv.uint64pow10", "math/bits.deBruijn32tab", "math/bits.deBruijn64tab"], apart := false, laid := [("lookout/crc.turns", laid_lookout_crc_turns), ("math/bits.deBruijn32tab", laid_math_bits_deBruijn32tab), ("math/bits.deBruijn64tab", laid_math_bits_deBruijn64tab), ("internal/strconv.uint64pow10", laid_internal_strconv_uint64pow10), ("lookout/record.forms", laid_lookout_record_forms)], narrowed := true }
def RecordApartUptoSaid : Prop := recordApartUptoRow.holds Tryd.pinned (OpenSpec.upto recordApartSpec)

end Rows
end Go.Proofs.YtdmpopdacbdnlaaDoor
