/-
  NARROWER THAN 'FOR EVERY INPUT', by the rows' own cells (each row's printed sentence says how): CrcSums: laid · CrcMore: laid · CrcLinear: laid · CrcBurst: laid · CrcZero: laid · SatSpans: laid.
  DERIVED. THE GIVEN ROWS OF THIS SEAT. 6 by the template 'for every input the law returns true; each argument reads behind the call as it read before'; 0 by the template 'total and deterministic' (their statements: YtgpjgldpgfoapaaDoorTotals.lean).
  GIVEN WITH THE SEED: the statements are not yours to turn. If you find one false, say at which input.
  Laid BY PROGRAM, IN A SANDBOX (cutbox-rows.mjs): the forced cells as the released guide's own fill.sh prints them over the translation 6910f972f4a9b0c6… (all of the seat's roots in one cut). By AI agents, Wed Nov 11 2026. No macro, syntax, notation, axiom, sorry.
-/
import Derived.Test.YtgpjgldpgfoapaaDoorChecked
import GoSem.Claim
import GoSem.ClaimJoined
import GoSem.ClaimMapViews
import Derived.JoinedTies
import Derived.KernelRfl
namespace Go.Proofs.YtgpjgldpgfoapaaDoor
/- THE CELL 'sum', in the pinned program and in every row, IS THE sha256 OF THE DUMP (.gsa) THAT YtgpjgldpgfoapaaDoorProg.lean LOADS. Nothing in Lean hashes anything: it is a label: what it is worth is what the hold of that sum in a sandbox is worth. -/
noncomputable def Tryd.pinned : Pinned := { name := "ytgpjgldpgfoapaadoor", sum := "6910f972f4a9b0c6d1e5d3c02612f25ebdb1ef085e5fbb1c67b78ddc9f3602d7", checked := Tryd.checked }
namespace Rows
def none {H : Type} : Left H := { results := [], args := [] }

/- WHAT THE LISTED PACKAGE-LEVEL VARIABLES READ AS WHEN THE CALL BEGINS. Each datum BY PROGRAM (the guide's laid-datum.mjs) off the statement by which the dump's own 'gosem.cut.vars' lays the variable. In a bare row this is a premise. The card (YtgpjgldpgfoapaaDoorCards.lean) ties it to the program's text. -/
def laid_lookout_crc_turns {H : Type} : DataW H := .agg [.lit (.int .u32 0), .lit (.int .u32 8801531), .lit (.int .u32 9098509), .lit (.int .u32 825846), .lit (.int .u32 9692897), .lit (.int .u32 1419802), .lit (.int .u32 1651692), .lit (.int .u32 10452759), .lit (.int .u32 10584377), .lit (.int .u32 2608578), .lit (.int .u32 2839604), .lit (.int .u32 11344079), .lit (.int .u32 3303384), .lit (.int .u32 11807523), .lit (.int .u32 12104405), .lit (.int .u32 4128302)]
def laid_math_bits_deBruijn32tab {H : Type} : DataW H := .agg [.lit (.int .u8 0), .lit (.int .u8 1), .lit (.int .u8 28), .lit (.int .u8 2), .lit (.int .u8 29), .lit (.int .u8 14), .lit (.int .u8 24), .lit (.int .u8 3), .lit (.int .u8 30), .lit (.int .u8 22), .lit (.int .u8 20), .lit (.int .u8 15), .lit (.int .u8 25), .lit (.int .u8 17), .lit (.int .u8 4), .lit (.int .u8 8), .lit (.int .u8 31), .lit (.int .u8 27), .lit (.int .u8 13), .lit (.int .u8 23), .lit (.int .u8 21), .lit (.int .u8 19), .lit (.int .u8 16), .lit (.int .u8 7), .lit (.int .u8 26), .lit (.int .u8 12), .lit (.int .u8 18), .lit (.int .u8 6), .lit (.int .u8 11), .lit (.int .u8 5), .lit (.int .u8 10), .lit (.int .u8 9)]
def laid_math_bits_deBruijn64tab {H : Type} : DataW H := .agg [.lit (.int .u8 0), .lit (.int .u8 1), .lit (.int .u8 56), .lit (.int .u8 2), .lit (.int .u8 57), .lit (.int .u8 49), .lit (.int .u8 28), .lit (.int .u8 3), .lit (.int .u8 61), .lit (.int .u8 58), .lit (.int .u8 42), .lit (.int .u8 50), .lit (.int .u8 38), .lit (.int .u8 29), .lit (.int .u8 17), .lit (.int .u8 4), .lit (.int .u8 62), .lit (.int .u8 47), .lit (.int .u8 59), .lit (.int .u8 36), .lit (.int .u8 45), .lit (.int .u8 43), .lit (.int .u8 51), .lit (.int .u8 22), .lit (.int .u8 53), .lit (.int .u8 39), .lit (.int .u8 33), .lit (.int .u8 30), .lit (.int .u8 24), .lit (.int .u8 18), .lit (.int .u8 12), .lit (.int .u8 5), .lit (.int .u8 63), .lit (.int .u8 55), .lit (.int .u8 48), .lit (.int .u8 27), .lit (.int .u8 60), .lit (.int .u8 41), .lit (.int .u8 37), .lit (.int .u8 16), .lit (.int .u8 46), .lit (.int .u8 35), .lit (.int .u8 44), .lit (.int .u8 21), .lit (.int .u8 52), .lit (.int .u8 32), .lit (.int .u8 23), .lit (.int .u8 11), .lit (.int .u8 54), .lit (.int .u8 26), .lit (.int .u8 40), .lit (.int .u8 15), .lit (.int .u8 34), .lit (.int .u8 20), .lit (.int .u8 31), .lit (.int .u8 10), .lit (.int .u8 25), .lit (.int .u8 14), .lit (.int .u8 19), .lit (.int .u8 9), .lit (.int .u8 13), .lit (.int .u8 8), .lit (.int .u8 7), .lit (.int .u8 6)]
def laid_internal_strconv_uint64pow10 {H : Type} : DataW H := .agg [.lit (.int .u64 1), .lit (.int .u64 10), .lit (.int .u64 100), .lit (.int .u64 1000), .lit (.int .u64 10000), .lit (.int .u64 100000), .lit (.int .u64 1000000), .lit (.int .u64 10000000), .lit (.int .u64 100000000), .lit (.int .u64 1000000000), .lit (.int .u64 10000000000), .lit (.int .u64 100000000000), .lit (.int .u64 1000000000000), .lit (.int .u64 10000000000000), .lit (.int .u64 100000000000000), .lit (.int .u64 1000000000000000), .lit (.int .u64 10000000000000000), .lit (.int .u64 100000000000000000), .lit (.int .u64 1000000000000000000), .lit (.int .u64 10000000000000000000)]

/-- 'lookoutlaw03.CrcSums': WHATEVER THE INPUT: true; the input reads as it did. -/
def crcSumsSpec : ChangeSpec := { name := "crcSums", fn := fun _ => fun
  | [d1, d2, d3] => { results := [.lit (.bool true)], args := [d1, d2, d3] }
  | _ => none }
def crcSumsRow : OpenClaim := { program := "ytgpjgldpgfoapaadoor", sum := "6910f972f4a9b0c6d1e5d3c02612f25ebdb1ef085e5fbb1c67b78ddc9f3602d7", func := "lookout/lookoutlaw03.CrcSums", spec := "crcSums", named := ["lookout/crc.turns"], apart := false, laid := [("lookout/crc.turns", laid_lookout_crc_turns)] }
def CrcSumsSaid : Prop := crcSumsRow.holds Tryd.pinned (OpenSpec.ofChange crcSumsSpec)

/-- ITS FALSE NEIGHBOUR: 'it returns false'. Refute it at one input. -/
def crcSumsWrong : ChangeSpec := { name := "crcSums", fn := fun _ => fun
  | [d1, d2, d3] => { results := [.lit (.bool false)], args := [d1, d2, d3] }
  | _ => none }
def CrcSumsWrongFalsely : Prop := crcSumsRow.holds Tryd.pinned (OpenSpec.ofChange crcSumsWrong)

/-- 'lookoutlaw03.CrcMore': WHATEVER THE INPUT: true; the input reads as it did. -/
def crcMoreSpec : ChangeSpec := { name := "crcMore", fn := fun _ => fun
  | [d1, d2, d3] => { results := [.lit (.bool true)], args := [d1, d2, d3] }
  | _ => none }
def crcMoreRow : OpenClaim := { program := "ytgpjgldpgfoapaadoor", sum := "6910f972f4a9b0c6d1e5d3c02612f25ebdb1ef085e5fbb1c67b78ddc9f3602d7", func := "lookout/lookoutlaw03.CrcMore", spec := "crcMore", named := ["lookout/crc.turns"], apart := false, laid := [("lookout/crc.turns", laid_lookout_crc_turns)] }
def CrcMoreSaid : Prop := crcMoreRow.holds Tryd.pinned (OpenSpec.ofChange crcMoreSpec)

/-- ITS FALSE NEIGHBOUR: 'it returns false'. Refute it at one input. -/
def crcMoreWrong : ChangeSpec := { name := "crcMore", fn := fun _ => fun
  | [d1, d2, d3] => { results := [.lit (.bool false)], args := [d1, d2, d3] }
  | _ => none }
def CrcMoreWrongFalsely : Prop := crcMoreRow.holds Tryd.pinned (OpenSpec.ofChange crcMoreWrong)

/-- 'lookoutlaw03.CrcLinear': WHATEVER THE INPUT: true; the input reads as it did. -/
def crcLinearSpec : ChangeSpec := { name := "crcLinear", fn := fun _ => fun
  | [d] => { results := [.lit (.bool true)], args := [d] }
  | _ => none }
def crcLinearRow : OpenClaim := { program := "ytgpjgldpgfoapaadoor", sum := "6910f972f4a9b0c6d1e5d3c02612f25ebdb1ef085e5fbb1c67b78ddc9f3602d7", func := "lookout/lookoutlaw03.CrcLinear", spec := "crcLinear", named := ["lookout/crc.turns"], apart := false, laid := [("lookout/crc.turns", laid_lookout_crc_turns)] }
def CrcLinearSaid : Prop := crcLinearRow.holds Tryd.pinned (OpenSpec.ofChange crcLinearSpec)

/-- ITS FALSE NEIGHBOUR: 'it returns false'. Refute it at one input. -/
def crcLinearWrong : ChangeSpec := { name := "crcLinear", fn := fun _ => fun
  | [d] => { results := [.lit (.bool false)], args := [d] }
  | _ => none }
def CrcLinearWrongFalsely : Prop := crcLinearRow.holds Tryd.pinned (OpenSpec.ofChange crcLinearWrong)

/-- 'lookoutlaw03.CrcBurst': WHATEVER THE INPUT: true; the input reads as it did. -/
def crcBurstSpec : ChangeSpec := { name := "crcBurst", fn := fun _ => fun
  | [d1, d2, d3] => { results := [.lit (.bool true)], args := [d1, d2, d3] }
  | _ => none }
def crcBurstRow : OpenClaim := { program := "ytgpjgldpgfoapaadoor", sum := "6910f972f4a9b0c6d1e5d3c02612f25ebdb1ef085e5fbb1c67b78ddc9f3602d7", func := "lookout/lookoutlaw03.CrcBurst", spec := "crcBurst", named := ["lookout/crc.turns"], apart := false, laid := [("lookout/crc.turns", laid_lookout_crc_turns)] }
def CrcBurstSaid : Prop := crcBurstRow.holds Tryd.pinned (OpenSpec.ofChange crcBurstSpec)

/-- ITS FALSE NEIGHBOUR: 'it returns false'. Refute it at one input. -/
def crcBurstWrong : ChangeSpec := { name := "crcBurst", fn := fun _ => fun
  | [d1, d2, d3] => { results := [.lit (.bool false)], args := [d1, d2, d3] }
  | _ => none }
def CrcBurstWrongFalsely : Prop := crcBurstRow.holds Tryd.pinned (OpenSpec.ofChange crcBurstWrong)

/-- 'lookoutlaw03.CrcZero': WHATEVER THE INPUT: true; the input reads as it did. -/
def crcZeroSpec : ChangeSpec := { name := "crcZero", fn := fun _ => fun
  | [d1, d2] => { results := [.lit (.bool true)], args := [d1, d2] }
  | _ => none }
def crcZeroRow : OpenClaim := { program := "ytgpjgldpgfoapaadoor", sum := "6910f972f4a9b0c6d1e5d3c02612f25ebdb1ef085e5fbb1c67b78ddc9f3602d7", func := "lookout/lookoutlaw03.CrcZero", spec := "crcZero", named := ["lookout/crc.turns"], apart := false, laid := [("lookout/crc.turns", laid_lookout_crc_turns)] }
def CrcZeroSaid : Prop := crcZeroRow.holds Tryd.pinned (OpenSpec.ofChange crcZeroSpec)

/-- ITS FALSE NEIGHBOUR: 'it returns false'. Refute it at one input. -/
def crcZeroWrong : ChangeSpec := { name := "crcZero", fn := fun _ => fun
  | [d1, d2] => { results := [.lit (.bool false)], args := [d1, d2] }
  | _ => none }
def CrcZeroWrongFalsely : Prop := crcZeroRow.holds Tryd.pinned (OpenSpec.ofChange crcZeroWrong)

/-- 'lookoutlaw02.SatSpans': WHATEVER THE INPUT: true; the input reads as it did. -/
def satSpansSpec : ChangeSpec := { name := "satSpans", fn := fun _ => fun
  | [d1, d2, d3, d4] => { results := [.lit (.bool true)], args := [d1, d2, d3, d4] }
  | _ => none }
def satSpansRow : OpenClaim := { program := "ytgpjgldpgfoapaadoor", sum := "6910f972f4a9b0c6d1e5d3c02612f25ebdb1ef085e5fbb1c67b78ddc9f3602d7", func := "lookout/lookoutlaw02.SatSpans", spec := "satSpans", named := ["internal/strconv.uint64pow10", "math/bits.deBruijn32tab", "math/bits.deBruijn64tab"], apart := false, laid := [("math/bits.deBruijn32tab", laid_math_bits_deBruijn32tab), ("math/bits.deBruijn64tab", laid_math_bits_deBruijn64tab), ("internal/strconv.uint64pow10", laid_internal_strconv_uint64pow10)] }
def SatSpansSaid : Prop := satSpansRow.holds Tryd.pinned (OpenSpec.ofChange satSpansSpec)

/-- ITS FALSE NEIGHBOUR: 'it returns false'. Refute it at one input. -/
def satSpansWrong : ChangeSpec := { name := "satSpans", fn := fun _ => fun
  | [d1, d2, d3, d4] => { results := [.lit (.bool false)], args := [d1, d2, d3, d4] }
  | _ => none }
def SatSpansWrongFalsely : Prop := satSpansRow.holds Tryd.pinned (OpenSpec.ofChange satSpansWrong)

/- THE SECOND FORM. 'bulk': how many values and letters a reading holds, each counted each time it is reached (what is shared counts as often as it is met; a slice's spare places count too). A statement '..UptoSaid' is the law's where the arguments, and the package variables that the reading takes, are together of bulk at most 1048576: NARROWER than '..Said'. Prove '..Said' where nothing that the law and all that it calls make is longer than what came in: it says more and counts as full. Else prove '..UptoSaid'. A law counts once. -/
mutual
def uptoBulk {H : Type} : DataW H → Nat
  | .lit (.string bytes) => bytes.length + 1
  | .lit _ => 1
  | .nil => 1
  | .ptr d => uptoBulk d + 1
  | .slice elems spare => uptoBulkAll elems + uptoBulkAll spare + 1
  | .agg parts => uptoBulkAll parts + 1
  | .iface _ d => uptoBulk d + 1
  | .map entries => uptoBulkEntries entries + 1
  | .held _ => 1
def uptoBulkAll {H : Type} : List (DataW H) → Nat
  | [] => 0
  | d :: r => uptoBulk d + uptoBulkAll r
def uptoBulkEntries {H : Type} : List (Lit × DataW H) → Nat
  | [] => 0
  | x :: r => uptoBulkEntry x + uptoBulkEntries r
def uptoBulkEntry {H : Type} : Lit × DataW H → Nat
  | (.string bytes, d) => bytes.length + uptoBulk d + 1
  | (_, d) => uptoBulk d + 1
 end
def uptoSmall : (H : Type) → List (DataW H) → Bool := fun _ ds => decide (uptoBulkAll ds ≤ 1048576)
def OpenSpec.upto (s : _root_.Go.ChangeSpec) : _root_.Go.OpenSpec := { _root_.Go.OpenSpec.ofChange s with cond := some uptoSmall }

/-- 'lookoutlaw03.CrcSums', WHERE WHAT IT READS IS OF BULK AT MOST 1048576: true; the input reads as it did. -/
def crcSumsUptoRow : OpenClaim := { program := "ytgpjgldpgfoapaadoor", sum := "6910f972f4a9b0c6d1e5d3c02612f25ebdb1ef085e5fbb1c67b78ddc9f3602d7", func := "lookout/lookoutlaw03.CrcSums", spec := "crcSums", named := ["lookout/crc.turns"], apart := false, laid := [("lookout/crc.turns", laid_lookout_crc_turns)], narrowed := true }
def CrcSumsUptoSaid : Prop := crcSumsUptoRow.holds Tryd.pinned (OpenSpec.upto crcSumsSpec)

/-- 'lookoutlaw03.CrcMore', WHERE WHAT IT READS IS OF BULK AT MOST 1048576: true; the input reads as it did. -/
def crcMoreUptoRow : OpenClaim := { program := "ytgpjgldpgfoapaadoor", sum := "6910f972f4a9b0c6d1e5d3c02612f25ebdb1ef085e5fbb1c67b78ddc9f3602d7", func := "lookout/lookoutlaw03.CrcMore", spec := "crcMore", named := ["lookout/crc.turns"], apart := false, laid := [("lookout/crc.turns", laid_lookout_crc_turns)], narrowed := true }
def CrcMoreUptoSaid : Prop := crcMoreUptoRow.holds Tryd.pinned (OpenSpec.upto crcMoreSpec)

/-- 'lookoutlaw03.CrcLinear', WHERE WHAT IT READS IS OF BULK AT MOST 1048576: true; the input reads as it did. -/
def crcLinearUptoRow : OpenClaim := { program := "ytgpjgldpgfoapaadoor", sum := "6910f972f4a9b0c6d1e5d3c02612f25ebdb1ef085e5fbb1c67b78ddc9f3602d7", func := "lookout/lookoutlaw03.CrcLinear", spec := "crcLinear", named := ["lookout/crc.turns"], apart := false, laid := [("lookout/crc.turns", laid_lookout_crc_turns)], narrowed := true }
def CrcLinearUptoSaid : Prop := crcLinearUptoRow.holds Tryd.pinned (OpenSpec.upto crcLinearSpec)

/-- 'lookoutlaw03.CrcBurst', WHERE WHAT IT READS IS OF BULK AT MOST 1048576: true; the input reads as it did. -/
def crcBurstUptoRow : OpenClaim := { program := "ytgpjgldpgfoapaadoor", sum := "6910f972f4a9b0c6d1e5d3c02612f25ebdb1ef085e5fbb1c67b78ddc9f3602d7", func := "lookout/lookoutlaw03.CrcBurst", spec := "crcBurst", named := ["lookout/crc.turns"], apart := false, laid := [("lookout/crc.turns", laid_lookout_crc_turns)], narrowed := true }
def CrcBurstUptoSaid : Prop := crcBurstUptoRow.holds Tryd.pinned (OpenSpec.upto crcBurstSpec)

/-- 'lookoutlaw03.CrcZero', WHERE WHAT IT READS IS OF BULK AT MOST 1048576: true; the input reads as it did. -/
def crcZeroUptoRow : OpenClaim := { program := "ytgpjgldpgfoapaadoor", sum := "6910f972f4a9b0c6d1e5d3c02612f25ebdb1ef085e5fbb1c67b78ddc9f3602d7", func := "lookout/lookoutlaw03.CrcZero", spec := "crcZero", named := ["lookout/crc.turns"], apart := false, laid := [("lookout/crc.turns", laid_lookout_crc_turns)], narrowed := true }
def CrcZeroUptoSaid : Prop := crcZeroUptoRow.holds Tryd.pinned (OpenSpec.upto crcZeroSpec)

/-- 'lookoutlaw02.SatSpans', WHERE WHAT IT READS IS OF BULK AT MOST 1048576: true; the input reads as it did. -/
def satSpansUptoRow : OpenClaim := { program := "ytgpjgldpgfoapaadoor", sum := "6910f972f4a9b0c6d1e5d3c02612f25ebdb1ef085e5fbb1c67b78ddc9f3602d7", func := "lookout/lookoutlaw02.SatSpans", spec := "satSpans", named := ["internal/strconv.uint64pow10", "math/bits.deBruijn32tab", "math/bits.deBruijn64tab"], apart := false, laid := [("math/bits.deBruijn32tab", laid_math_bits_deBruijn32tab), ("math/bits.deBruijn64tab", laid_math_bits_deBruijn64tab), ("internal/strconv.uint64pow10", laid_internal_strconv_uint64pow10)], narrowed := true }
def SatSpansUptoSaid : Prop := satSpansUptoRow.holds Tryd.pinned (OpenSpec.upto satSpansSpec)

end Rows
end Go.Proofs.YtgpjgldpgfoapaaDoor
