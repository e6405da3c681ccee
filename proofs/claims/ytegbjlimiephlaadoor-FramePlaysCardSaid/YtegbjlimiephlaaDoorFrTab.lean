/- The table of package crc, out of what the row lays. -/
import Derived.Test.YtegbjlimiephlaaDoorCrcFns
import Derived.Lib.LaidTab
namespace Go.Proofs.YtegbjlimiephlaaDoor
open Go.RowKit
def turnsI : List Int := [0, 8801531, 9098509, 825846, 9692897, 1419802, 1651692, 10452759, 10584377, 2608578, 2839604, 11344079, 3303384, 11807523, 12104405, 4128302]
theorem turnsI_eq : ∀ i : Fin 16, turnsI.getD i.val 0 = ((Crc.turns.getD i.val 0 : Nat) : Int) := by decide
theorem Tab.of {w : World} (hT : Lib.TabIs Tryd.prog w "lookout/crc.turns" .u32 turnsI) (hg : Tryd.prog.globalNamed "lookout/crc.turns" = some 0) : Tab w :=
  ⟨World.block_lt_of_cell? w ⟨0, 0, none⟩ (hT.cell hg 0 (by decide)), fun i hi => by rw [hT.cell hg i hi, turnsI_eq ⟨i, hi⟩]⟩
end Go.Proofs.YtegbjlimiephlaaDoor
