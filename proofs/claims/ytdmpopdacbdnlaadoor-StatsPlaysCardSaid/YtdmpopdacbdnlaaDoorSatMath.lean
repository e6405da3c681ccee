/- The plain arithmetic of sums that are cut at the ends of int64, and of spans. No program. -/
import Derived.WalkKit
import Derived.Lib.Hide
import Derived.Test.YtdmpopdacbdnlaaDoorKitG
namespace Go.Proofs.YtdmpopdacbdnlaaDoor
open Go.RowKit

def cut (x : Int) : Int := if x > 9223372036854775807 then 9223372036854775807 else if x < -9223372036854775808 then -9223372036854775808 else x
def was (x : Int) : Bool := if x > 9223372036854775807 then true else if x < -9223372036854775808 then true else false
theorem cut_in {x : Int} (h : -9223372036854775808 ≤ x) (h' : x ≤ 9223372036854775807) : cut x = x := by unfold cut; rw [if_neg (by omega), if_neg (by omega)]
theorem was_in {x : Int} (h : -9223372036854775808 ≤ x) (h' : x ≤ 9223372036854775807) : was x = false := by unfold was; rw [if_neg (by omega), if_neg (by omega)]
theorem cut_hi {x : Int} (h : 9223372036854775807 < x) : cut x = 9223372036854775807 := by unfold cut; rw [if_pos (by omega)]
theorem was_hi {x : Int} (h : 9223372036854775807 < x) : was x = true := by unfold was; rw [if_pos (by omega)]
theorem cut_lo {x : Int} (h : x < -9223372036854775808) : cut x = -9223372036854775808 := by unfold cut; rw [if_neg (by omega), if_pos (by omega)]
theorem was_lo {x : Int} (h : x < -9223372036854775808) : was x = true := by unfold was; rw [if_neg (by omega), if_pos (by omega)]
theorem cut_ge (x : Int) : -9223372036854775808 ≤ cut x := by unfold cut; split <;> (try split) <;> omega
theorem cut_le (x : Int) : cut x ≤ 9223372036854775807 := by unfold cut; split <;> (try split) <;> omega
/-- the pair that Add and Sub hand back -/
def pairV (x : Int) : Ending := .returned (.tuple #[.int .i64 (cut x), .bool (was x)])
theorem pairV_in {x : Int} (h : -9223372036854775808 ≤ x) (h' : x ≤ 9223372036854775807) : Ending.returned (.tuple #[.int .i64 x, .bool false]) = pairV x := by
  unfold pairV; rw [cut_in h h', was_in h h']
theorem pairV_hi {x : Int} (h : 9223372036854775807 < x) : Ending.returned (.tuple #[.int .i64 9223372036854775807, .bool true]) = pairV x := by
  unfold pairV; rw [cut_hi h, was_hi h]
theorem pairV_lo {x : Int} (h : x < -9223372036854775808) : Ending.returned (.tuple #[.int .i64 (-9223372036854775808), .bool true]) = pairV x := by
  unfold pairV; rw [cut_lo h, was_lo h]
theorem pairV_of {x y : Int} (h : x = y) : Ending.returned (.tuple #[.int .i64 (cut x), .bool (was x)]) = pairV y := by rw [h]; rfl
theorem wrap_hi {x : Int} (h : 9223372036854775807 < x) (h' : x ≤ 18446744073709551616) : wrap64 x = x - 18446744073709551616 := by unfold wrap64; omega
theorem wrap_lo {x : Int} (h : x < -9223372036854775808) (h' : -18446744073709551616 ≤ x) : wrap64 x = x + 18446744073709551616 := by unfold wrap64; omega
theorem tdiv_facts (a : Int) : 4294967296 * a.tdiv 4294967296 + a.tmod 4294967296 = a ∧ a.tmod 4294967296 < 4294967296 ∧ -4294967296 < a.tmod 4294967296 :=
  ⟨by rw [Int.mul_comm]; exact Int.tdiv_mul_add_tmod a 4294967296, Int.tmod_lt_of_pos a (by omega), Int.lt_tmod_of_pos a (by omega)⟩
end Go.Proofs.YtdmpopdacbdnlaaDoor
