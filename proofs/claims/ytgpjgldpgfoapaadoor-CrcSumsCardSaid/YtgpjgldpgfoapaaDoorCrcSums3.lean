/- The walk of package crc's law that all sums are the document's: both ways. -/
import Derived.Test.YtgpjgldpgfoapaaDoorCrcSums
import Derived.Test.YtgpjgldpgfoapaaDoorCrcSums2
namespace Go.Proofs.YtgpjgldpgfoapaaDoor
open Go.RowKit

theorem crcSums_walk (s : Int) (ws : 0 ≤ s ∧ s ≤ 4294967295) (b : Option Addr) (lb cb : Nat) (zb : List Int) (fin : Bool) (w : World) (hb : IsRow .u8 w b lb cb zb) (hT : Tab w) :
    Calls Tryd.prog 3 #[.int .u32 s, .slice b lb cb, .bool fin] w fun e w' => e = .returned (.bool true) ∧ Below w.heap.size w w' := by
  cases fin
  · exact crcSums_false s ws b lb cb zb w hb hT
  · exact crcSums_true s ws b lb cb zb w hb hT
end Go.Proofs.YtgpjgldpgfoapaaDoor
