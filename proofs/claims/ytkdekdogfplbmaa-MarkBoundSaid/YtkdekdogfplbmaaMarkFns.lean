/- The contracts of package mark: a mark that is raised. -/
import Derived.Test.YtkdekdogfplbmaaRows
import Derived.Test.YtkdekdogfplbmaaKit
import Derived.BigQuiet
import Derived.Deep.QuietTactic
import Derived.WalkLawsBesides
import Derived.WalkSpells
namespace Go.Proofs.Ytkdekdogfplbmaa
open Go.RowKit
set_option linter.unusedVariables false
set_option linter.unusedSimpArgs false

theorem mark_new (w : World) : Calls Try.prog 15 #[] w fun e w' => e = .returned (.pointer (some ⟨w.heap.size, 0, none⟩)) ∧ w'.cell? ⟨w.heap.size, 0, none⟩ = some (.int .i64 (-1)) ∧ w'.frozen? ⟨w.heap.size, 0, none⟩ = false ∧ Below w.heap.size w w' ∧ w.heap.size < w'.heap.size := by
  go_enter Try.func15, Try.ntmps15
  go_wp2_with fail
  go_ret
  exact ⟨rfl, by simp, by simp, (by repeat (first | with_reducible exact Below.refl _ _ | with_reducible refine Below.drew ?_ | with_reducible refine Below.alloc ?_ (by (try simp) <;> omega) _ | with_reducible refine Below.setCell ?_ (by (try simp) <;> omega) _)), by simp⟩
theorem mark_raise_nil (to : Int) (w : World) : Calls Try.prog 16 #[.pointer none, .int .i64 to] w fun e w' => e = .returned (.bool false) ∧ w = w' := by
  go_enter Try.func16, Try.ntmps16
  go_wp2_with fail
  go_ret
  exact ⟨rfl, rfl⟩
theorem mark_raise_no (b : Nat) (v to : Int) (hle : to ≤ v) (w : World) (hc : w.cell? ⟨b, 0, none⟩ = some (.int .i64 v)) : Calls Try.prog 16 #[.pointer (some ⟨b, 0, none⟩), .int .i64 to] w fun e w' => e = .returned (.bool false) ∧ w = w' := by
  go_enter Try.func16, Try.ntmps16
  go_wp2_with fail
  go_ret
  exact ⟨rfl, rfl⟩
theorem mark_raise_yes (b : Nat) (v to : Int) (hle : v < to) (w : World) (hc : w.cell? ⟨b, 0, none⟩ = some (.int .i64 v)) (hf : w.frozen? ⟨b, 0, none⟩ = false) : Calls Try.prog 16 #[.pointer (some ⟨b, 0, none⟩), .int .i64 to] w fun e w' => e = .returned (.bool true) ∧ w.setCell ⟨b, 0, none⟩ (.int .i64 to) = w' := by
  go_enter Try.func16, Try.ntmps16
  go_wp2_with fail
  go_ret
  exact ⟨rfl, rfl⟩
theorem mark_at_nil (w : World) : Calls Try.prog 17 #[.pointer none] w fun e w' => e = .returned (.int .i64 (-1)) ∧ w = w' := by
  go_enter Try.func17, Try.ntmps17
  go_wp2_with fail
  go_ret
  exact ⟨rfl, rfl⟩
theorem mark_at (b : Nat) (v : Int) (w : World) (hc : w.cell? ⟨b, 0, none⟩ = some (.int .i64 v)) : Calls Try.prog 17 #[.pointer (some ⟨b, 0, none⟩)] w fun e w' => e = .returned (.int .i64 v) ∧ w = w' := by
  go_enter Try.func17, Try.ntmps17
  go_wp2_with fail
  go_ret
  exact ⟨rfl, rfl⟩
end Go.Proofs.Ytkdekdogfplbmaa
