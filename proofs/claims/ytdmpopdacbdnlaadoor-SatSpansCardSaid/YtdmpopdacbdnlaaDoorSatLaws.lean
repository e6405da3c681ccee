/- The walks of package sat's laws. -/
import Derived.Test.YtdmpopdacbdnlaaDoorSatAt
namespace Go.Proofs.YtdmpopdacbdnlaaDoor
open Go.RowKit
set_option linter.unusedVariables false
set_option linter.unusedSimpArgs false

theorem sat_awake (w : World) : Calls Tryd.prog 23 #[] w fun e w' => e = .returned (.bool true) ∧ Below w.heap.size w w' := by
  have hr : rightB 9223372036854775806 9223372036854775807 = true := by decide
  go_enter Tryd.func23, Tryd.ntmps23
  go_wp2_with fail
  refine (sat_add _ _ _ (by omega) (by omega) (by omega) (by omega)).mono ?_; rintro e w' ⟨rfl, rfl⟩
  rw [← pairV_hi (by omega)]
  go_wp2_with fail
  refine (sat_sub _ _ _ (by omega) (by omega) (by omega) (by omega)).mono ?_; rintro e w' ⟨rfl, rfl⟩
  rw [← pairV_in (by omega) (by omega)]
  go_wp2_with fail
  refine (at_ok _ _ _ _ (by omega) (by omega) (by omega) (by omega) (by omega)).mono ?_; rintro e w1 ⟨rfl, hb1⟩; obtain ⟨hc1, hf1⟩ := bcell hb1; have hz1 := hb1.size; (try simp at hz1)
  rw [cut_hi (by omega)]
  go_wp2_with fail
  refine (right_any _ _ _).mono ?_; rintro e w2 ⟨rfl, hb2⟩; obtain ⟨hc2, hf2⟩ := bcell hb2; have hz2 := hb2.size; (try simp at hz2)
  rw [hr]
  go_wp2_with fail
  go_ret
  exact ⟨rfl, (by repeat (first | with_reducible exact Below.refl _ _ | with_reducible refine Below.trans ?_ (Below.mono hb9 (by (try simp) <;> omega)) | with_reducible refine Below.trans ?_ (Below.mono hb8 (by (try simp) <;> omega)) | with_reducible refine Below.trans ?_ (Below.mono hb7 (by (try simp) <;> omega)) | with_reducible refine Below.trans ?_ (Below.mono hb6 (by (try simp) <;> omega)) | with_reducible refine Below.trans ?_ (Below.mono hb5 (by (try simp) <;> omega)) | with_reducible refine Below.trans ?_ (Below.mono hb4 (by (try simp) <;> omega)) | with_reducible refine Below.trans ?_ (Below.mono hb3 (by (try simp) <;> omega)) | with_reducible refine Below.trans ?_ (Below.mono hb2 (by (try simp) <;> omega)) | with_reducible refine Below.trans ?_ (Below.mono hb1 (by (try simp) <;> omega)) | with_reducible refine Below.drew ?_ | with_reducible refine Below.alloc ?_ (by (try simp) <;> omega) _ | with_reducible refine Below.setCell ?_ (by (try simp) <;> omega) _))⟩

theorem hasB_true {lo hi d : Int} (h : lo ≤ d) (h' : d ≤ hi) : hasB lo hi d = true := by simp [hasB, h, h']
theorem hasB_false {lo hi d : Int} (h : ¬ (lo ≤ d ∧ d ≤ hi)) : hasB lo hi d = false := by
  unfold hasB; rw [Bool.and_eq_false_iff, decide_eq_false_iff_not, decide_eq_false_iff_not]; omega

/-- SatOrder's last test, in plain numbers -/
theorem order_law (a b c : Int) (h : a ≤ b) : cut (a + c) ≤ cut (b + c) := by unfold cut; split <;> (try split) <;> (try split) <;> (try split) <;> omega

end Go.Proofs.YtdmpopdacbdnlaaDoor
