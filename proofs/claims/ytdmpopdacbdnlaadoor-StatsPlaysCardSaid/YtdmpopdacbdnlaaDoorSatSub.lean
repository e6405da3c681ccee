/- The contract of package sat's difference. -/
import Derived.Test.YtdmpopdacbdnlaaDoorRows
import Derived.Test.YtdmpopdacbdnlaaDoorSatMath
import Derived.BigQuiet
import Derived.Deep.QuietTactic
namespace Go.Proofs.YtdmpopdacbdnlaaDoor
open Go.RowKit
set_option linter.unusedVariables false

theorem sat_sub (a b : Int) (w : World) (ha : -9223372036854775808 ≤ a) (ha' : a ≤ 9223372036854775807) (hb : -9223372036854775808 ≤ b) (hb' : b ≤ 9223372036854775807) :
    Calls Tryd.prog 72 #[.int .i64 a, .int .i64 b] w fun e w' => e = pairV (a - b) ∧ w = w' := by
  by_cases h : a - b < -9223372036854775808
  · have h1 : a < wrap64 (a - b) := by rw [wrap_lo h (by omega)]; omega
    have h2 : 0 < b := by omega
    have h3 : ¬ wrap64 (a - b) < a := by omega
    go_enter Tryd.func72, Tryd.ntmps72
    go_wp2
    go_ret2; exact ⟨pairV_lo h, rfl⟩
  · by_cases h' : 9223372036854775807 < a - b
    · have h1 : wrap64 (a - b) < a := by rw [wrap_hi h' (by omega)]; omega
      have h2 : b < 0 := by omega
      go_enter Tryd.func72, Tryd.ntmps72
      go_wp2
      go_ret2; exact ⟨pairV_hi h', rfl⟩
    · go_enter Tryd.func72, Tryd.ntmps72
      go_wp2
      all_goals (go_ret2; exact ⟨pairV_in (by omega) (by omega), rfl⟩)
end Go.Proofs.YtdmpopdacbdnlaaDoor
