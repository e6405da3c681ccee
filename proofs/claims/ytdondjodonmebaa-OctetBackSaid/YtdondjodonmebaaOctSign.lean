/- octet.Sign, octet.Plain, and the document's: contracts. -/
import Derived.Test.YtdondjodonmebaaOctMath
import Derived.Test.YtdondjodonmebaaOctBits
namespace Go.Proofs.Ytdondjodonmebaa
open Go.RowKit
set_option linter.unusedVariables false
set_option linter.unusedSimpArgs false
set_option maxHeartbeats 2000000
set_option maxRecDepth 20000
def signOf (n : Int) : Int := if 0 ≤ n then 2 * n else 2 * (-(n + 1)) + 1
def plainOf (u : Int) : Int := if u % 2 = 0 then u / 2 else -(u / 2) - 1
theorem sign_any (n : Int) (h1 : -9223372036854775808 ≤ n) (h2 : n ≤ 9223372036854775807) (w : World) : Calls Try.prog 10 #[.int .i64 n] w fun e w' => e = .returned (.int .u64 (signOf n)) ∧ w = w' := by
  unfold signOf
  by_cases h : 0 ≤ n
  · rw [if_pos h]
    go_enter Try.func10, Try.ntmps10
    go_wp2_with fail
    go_ret
    exact ⟨ret_int (by omega), rfl⟩
  · rw [if_neg h]
    go_enter Try.func10, Try.ntmps10
    go_wp2_with fail
    go_ret
    exact ⟨ret_int (by omega), rfl⟩
theorem rsign_any (n : Int) (h1 : -9223372036854775808 ≤ n) (h2 : n ≤ 9223372036854775807) (w : World) : Calls Try.prog 12 #[.int .i64 n] w fun e w' => e = .returned (.int .u64 (signOf n)) ∧ w = w' := by
  unfold signOf
  by_cases h : 0 ≤ n
  · rw [if_pos h]
    go_enter Try.func12, Try.ntmps12
    go_wp2_with fail
    go_ret
    exact ⟨ret_int (by omega), rfl⟩
  · rw [if_neg h]
    go_enter Try.func12, Try.ntmps12
    go_wp2_with fail
    go_ret
    exact ⟨ret_int (by omega), rfl⟩
theorem plain_any (u : Int) (h1 : 0 ≤ u) (h2 : u ≤ 18446744073709551615) (w : World) : Calls Try.prog 11 #[.int .u64 u] w fun e w' => e = .returned (.int .i64 (plainOf u)) ∧ w = w' := by
  unfold plainOf
  by_cases h : u % 2 = 0
  · rw [if_pos h]
    go_enter Try.func11, Try.ntmps11
    go_wp2_with fail
    go_ret
    exact ⟨ret_int (by omega), rfl⟩
  · rw [if_neg h]
    have hm : u % 2 = 1 := by omega
    go_enter Try.func11, Try.ntmps11
    go_wp2_with fail
    go_ret
    exact ⟨ret_int (by omega), rfl⟩
theorem rplain_any (u : Int) (h1 : 0 ≤ u) (h2 : u ≤ 18446744073709551615) (w : World) : Calls Try.prog 13 #[.int .u64 u] w fun e w' => e = .returned (.int .i64 (plainOf u)) ∧ w = w' := by
  unfold plainOf
  by_cases h : u % 2 = 0
  · rw [if_pos h]
    go_enter Try.func13, Try.ntmps13
    go_wp2_with fail
    go_ret
    exact ⟨ret_int (by omega), rfl⟩
  · rw [if_neg h]
    have hm : u % 2 = 1 := by omega
    go_enter Try.func13, Try.ntmps13
    go_wp2_with fail
    go_ret
    exact ⟨ret_int (by omega), rfl⟩
theorem sign_range {n : Int} (h1 : -9223372036854775808 ≤ n) (h2 : n ≤ 9223372036854775807) : 0 ≤ signOf n ∧ signOf n ≤ 18446744073709551615 := by unfold signOf; split <;> omega
theorem plain_range {u : Int} (h1 : 0 ≤ u) (h2 : u ≤ 18446744073709551615) : -9223372036854775808 ≤ plainOf u ∧ plainOf u ≤ 9223372036854775807 := by unfold plainOf; split <;> omega
theorem plain_sign (n : Int) : plainOf (signOf n) = n := by unfold signOf plainOf; split <;> split <;> omega
theorem sign_plain {u : Int} (h1 : 0 ≤ u) : signOf (plainOf u) = u := by unfold plainOf; split <;> unfold signOf <;> split <;> omega
end Go.Proofs.Ytdondjodonmebaa
