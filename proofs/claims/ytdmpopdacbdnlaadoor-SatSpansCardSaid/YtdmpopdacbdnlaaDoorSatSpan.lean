/- The contracts of spans. -/
import Derived.Test.YtdmpopdacbdnlaaDoorSatFns
import Derived.Test.YtdmpopdacbdnlaaDoorKitG
import Derived.Below
import Derived.WalkLawsBesides
import Derived.WalkSpells
import Derived.Deep.RegionWith
namespace Go.Proofs.YtdmpopdacbdnlaaDoor
open Go.RowKit
set_option linter.unusedVariables false

def rightB (lo hi : Int) : Bool := decide (0 ≤ lo) && decide (lo ≤ hi)
def hasB (lo hi d : Int) : Bool := decide (lo ≤ d) && decide (d ≤ hi)

theorem none_any (w : World) : Calls Tryd.prog 74 #[] w fun e w' => e = .returned (.agg #[.int .i64 1, .int .i64 0]) ∧ Below w.heap.size w w' := by
  go_enter Tryd.func74, Tryd.ntmps74
  go_wp2
  exact bodyPost_ret (v := .agg #[.int .i64 1, .int .i64 0]) (by simp [results, Tryd.results74, go_sem]) rfl ⟨rfl, (by repeat (first | with_reducible exact Below.refl _ _ | with_reducible refine Below.drew ?_ | with_reducible refine Below.alloc ?_ (by (try simp) <;> omega) _ | with_reducible refine Below.setCell ?_ (by (try simp) <;> omega) _))⟩

theorem right_any (lo hi : Int) (w : World) :
    Calls Tryd.prog 28 #[.agg #[.int .i64 lo, .int .i64 hi]] w fun e w' => e = .returned (.bool (rightB lo hi)) ∧ Below w.heap.size w w' := by
  by_cases h1 : 0 ≤ lo
  · by_cases h2 : lo ≤ hi
    · go_enter Tryd.func28, Tryd.ntmps28
      go_wp2
      go_ret
      exact ⟨ret_bool (by simp [rightB, h1, h2]), (by repeat (first | with_reducible exact Below.refl _ _ | with_reducible refine Below.drew ?_ | with_reducible refine Below.alloc ?_ (by (try simp) <;> omega) _ | with_reducible refine Below.setCell ?_ (by (try simp) <;> omega) _))⟩
    · go_enter Tryd.func28, Tryd.ntmps28
      go_wp2
      go_ret
      exact ⟨ret_bool (by simp [rightB, h1]; omega), (by repeat (first | with_reducible exact Below.refl _ _ | with_reducible refine Below.drew ?_ | with_reducible refine Below.alloc ?_ (by (try simp) <;> omega) _ | with_reducible refine Below.setCell ?_ (by (try simp) <;> omega) _))⟩
  · go_enter Tryd.func28, Tryd.ntmps28
    go_wp2
    go_ret
    exact ⟨ret_bool (by simp [rightB]; omega), (by repeat (first | with_reducible exact Below.refl _ _ | with_reducible refine Below.drew ?_ | with_reducible refine Below.alloc ?_ (by (try simp) <;> omega) _ | with_reducible refine Below.setCell ?_ (by (try simp) <;> omega) _))⟩

theorem has_any (lo hi d : Int) (w : World) :
    Calls Tryd.prog 30 #[.agg #[.int .i64 lo, .int .i64 hi], .int .i64 d] w fun e w' => e = .returned (.bool (hasB lo hi d)) ∧ Below w.heap.size w w' := by
  by_cases h1 : lo ≤ d
  · by_cases h2 : d ≤ hi
    · go_enter Tryd.func30, Tryd.ntmps30
      go_wp2
      go_ret
      exact ⟨ret_bool (by simp [hasB, h1, h2]), (by repeat (first | with_reducible exact Below.refl _ _ | with_reducible refine Below.drew ?_ | with_reducible refine Below.alloc ?_ (by (try simp) <;> omega) _ | with_reducible refine Below.setCell ?_ (by (try simp) <;> omega) _))⟩
    · go_enter Tryd.func30, Tryd.ntmps30
      go_wp2
      go_ret
      exact ⟨ret_bool (by simp [hasB, h1]; omega), (by repeat (first | with_reducible exact Below.refl _ _ | with_reducible refine Below.drew ?_ | with_reducible refine Below.alloc ?_ (by (try simp) <;> omega) _ | with_reducible refine Below.setCell ?_ (by (try simp) <;> omega) _))⟩
  · go_enter Tryd.func30, Tryd.ntmps30
    go_wp2
    go_ret
    exact ⟨ret_bool (by simp [hasB]; omega), (by repeat (first | with_reducible exact Below.refl _ _ | with_reducible refine Below.drew ?_ | with_reducible refine Below.alloc ?_ (by (try simp) <;> omega) _ | with_reducible refine Below.setCell ?_ (by (try simp) <;> omega) _))⟩

theorem told_none (w : World) : Calls Tryd.prog 73 #[.agg #[.int .i64 1, .int .i64 0]] w fun e w' => e = .returned (.tuple #[.agg #[.int .i64 0, .int .i64 0], .bool false]) ∧ Below w.heap.size w w' := by
  go_enter Tryd.func73, Tryd.ntmps73
  go_wp2
  go_region_with (go_at_call 74; refine (none_any _).mono ?_; rintro e w1 ⟨rfl, hb⟩; obtain ⟨hc, hf⟩ := bcell hb)
  all_goals go_wp2
  all_goals have hz := hb.size
  all_goals simp at hz
  all_goals exact bodyPost_ret (v := .tuple #[.agg #[.int .i64 0, .int .i64 0], .bool false]) (by simp [results, Tryd.results73, go_sem, hc]) rfl ⟨rfl, (by repeat (first | with_reducible exact Below.refl _ _ | with_reducible refine Below.trans ?_ (Below.mono hb (by (try simp) <;> omega)) | with_reducible refine Below.drew ?_ | with_reducible refine Below.alloc ?_ (by (try simp) <;> omega) _ | with_reducible refine Below.setCell ?_ (by (try simp) <;> omega) _))⟩

theorem told_any (lo hi : Int) (h : lo ≤ hi) (w : World) : Calls Tryd.prog 73 #[.agg #[.int .i64 lo, .int .i64 hi]] w fun e w' => e = .returned (.tuple #[.agg #[.int .i64 lo, .int .i64 hi], .bool true]) ∧ Below w.heap.size w w' := by
  by_cases h1 : lo = 1
  · subst h1
    have h2 : (hi == 0) = false := by rw [beq_eq_false_iff_ne]; omega
    go_enter Tryd.func73, Tryd.ntmps73
    go_wp2
    go_region_with (go_at_call 74; refine (none_any _).mono ?_; rintro e w1 ⟨rfl, hb⟩; obtain ⟨hc, hf⟩ := bcell hb)
    all_goals go_wp2
    all_goals have hz := hb.size
    all_goals simp at hz
    all_goals exact bodyPost_ret (v := .tuple #[.agg #[.int .i64 1, .int .i64 hi], .bool true]) (by simp [results, Tryd.results73, go_sem, hc]) rfl ⟨rfl, (by repeat (first | with_reducible exact Below.refl _ _ | with_reducible refine Below.trans ?_ (Below.mono hb (by (try simp) <;> omega)) | with_reducible refine Below.drew ?_ | with_reducible refine Below.alloc ?_ (by (try simp) <;> omega) _ | with_reducible refine Below.setCell ?_ (by (try simp) <;> omega) _))⟩
  · have h2 : (lo == 1) = false := by rw [beq_eq_false_iff_ne]; omega
    go_enter Tryd.func73, Tryd.ntmps73
    go_wp2
    go_region_with (go_at_call 74; refine (none_any _).mono ?_; rintro e w1 ⟨rfl, hb⟩; obtain ⟨hc, hf⟩ := bcell hb)
    all_goals go_wp2
    all_goals have hz := hb.size
    all_goals simp at hz
    all_goals exact bodyPost_ret (v := .tuple #[.agg #[.int .i64 lo, .int .i64 hi], .bool true]) (by simp [results, Tryd.results73, go_sem, hc]) rfl ⟨rfl, (by repeat (first | with_reducible exact Below.refl _ _ | with_reducible refine Below.trans ?_ (Below.mono hb (by (try simp) <;> omega)) | with_reducible refine Below.drew ?_ | with_reducible refine Below.alloc ?_ (by (try simp) <;> omega) _ | with_reducible refine Below.setCell ?_ (by (try simp) <;> omega) _))⟩
end Go.Proofs.YtdmpopdacbdnlaaDoor
