/- The walk of OctetSigns. -/
import Derived.Test.YtdondjodonmebaaOctAwake
import Derived.Test.YtdondjodonmebaaChecked
import Derived.Test.YtdondjodonmebaaRows
namespace Go.Proofs.Ytdondjodonmebaa
open Go.RowKit
set_option linter.unusedVariables false
set_option linter.unusedSimpArgs false
set_option maxHeartbeats 2000000
set_option maxRecDepth 20000
theorem octetSigns_walk (n : Int) (bn : -9223372036854775808 ≤ n ∧ n ≤ 9223372036854775807) (u : Int) (bu : 0 ≤ u ∧ u ≤ 18446744073709551615) (w : World) :
    Calls Try.prog 3 #[.int .i64 n, .int .u64 u] w fun e w' => e = .returned (.bool true) ∧ Below w.heap.size w w' := by
  obtain ⟨s1, s2⟩ := sign_range bn.1 bn.2
  obtain ⟨p1, p2⟩ := plain_range bu.1 bu.2
  have q1 := Lib.hid (plain_sign n)
  have q2 := Lib.hid (sign_plain bu.1)
  generalize hs : signOf n = s at *
  generalize hp : plainOf u = p at *
  have hs := Lib.hid hs
  have hp := Lib.hid hp
  go_enter Try.func3, Try.ntmps3
  go_wp2_with fail
  refine (awake_any _).mono ?_; rintro e w1 ⟨rfl, hb1⟩
  go_wp2_with fail
  refine (sign_any n bn.1 bn.2 w1).mono ?_; rintro e w' ⟨rfl, rfl⟩
  rw [hs.out]
  go_wp2_with fail
  refine (plain_any u bu.1 bu.2 w1).mono ?_; rintro e w' ⟨rfl, rfl⟩
  rw [hp.out]
  go_wp2_with fail
  refine (rsign_any n bn.1 bn.2 w1).mono ?_; rintro e w' ⟨rfl, rfl⟩
  rw [hs.out]
  go_wp2_with fail
  refine (rplain_any u bu.1 bu.2 w1).mono ?_; rintro e w' ⟨rfl, rfl⟩
  rw [hp.out]
  go_wp2_with fail
  refine (plain_any s s1 s2 w1).mono ?_; rintro e w' ⟨rfl, rfl⟩
  rw [q1.out]
  go_wp2_with fail
  refine (sign_any p p1 p2 w1).mono ?_; rintro e w' ⟨rfl, rfl⟩
  rw [q2.out]
  go_wp2_with fail
  go_ret
  exact ⟨rfl, hb1⟩
end Go.Proofs.Ytdondjodonmebaa
