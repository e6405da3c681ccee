/- The walk of MarkBound. -/
import Derived.Test.YtkdekdogfplbmaaMarkAwake
import Derived.Test.YtkdekdogfplbmaaMarkOpen
import Derived.Test.YtkdekdogfplbmaaMarkRef2
import Derived.Deep.RegionHeld3
import Derived.Deep.QuietTactic
namespace Go.Proofs.Ytkdekdogfplbmaa
open Go.RowKit
set_option linter.unusedVariables false
set_option linter.unusedSimpArgs false
set_option maxHeartbeats 2000000
set_option maxRecDepth 20000

theorem markBound_walk (a : Option Addr) (len cap : Nat) (l : List Src) (is : Bool) (since : Int) (b1 : -9223372036854775808 ≤ since ∧ since ≤ 9223372036854775807) (now : Int) (b2 : -9223372036854775808 ≤ now ∧ now ≤ 9223372036854775807) (top : Int) (b3 : -9223372036854775808 ≤ top ∧ top ≤ 9223372036854775807) (w : World) (hS : RowS w a len l) :
    Calls Try.prog 3 #[.slice a len cap, .agg #[.bool is, .int .i64 since, .int .i64 now], .int .i64 top] w fun e w' => e = .returned (.bool true) ∧ Below w.heap.size w w' := by
  have hm : len ≤ 9223372036854775807 := by have := hS.small; unfold maxLen at this; omega
  go_enter Try.func3, Try.ntmps3
  go_wp2_with fail
  refine (awake_any _).mono ?_; rintro e w1 ⟨rfl, hb1⟩
  have z1 := hb1.size
  simp at z1
  have B1 : Below w.heap.size w w1 := by
    refine Below.trans ?_ (hb1.mono (by simp <;> omega))
    exact (by repeat (first | with_reducible exact Below.refl _ _ | with_reducible refine Below.drew ?_ | with_reducible refine Below.alloc ?_ (by (try simp) <;> omega) _ | with_reducible refine Below.setCell ?_ (by (try simp) <;> omega) _))
  by_cases hl : 60 < len
  · go_wp2_with fail
    go_ret
    exact ⟨rfl, B1⟩
  · have hS1 : RowS w1.drew a len l := hS.below (B1.drew)
    have hok := hS.ok
    have LL := Lib.hid hS.length
    have E : ∀ W, Below w1.heap.size w1 W → W.cell? ⟨w.heap.size, 0, none⟩ = some (.bool is) ∧ W.cell? ⟨w.heap.size, 1, none⟩ = some (.int .i64 since) ∧ W.cell? ⟨w.heap.size, 2, none⟩ = some (.int .i64 now) := fun W hW =>
      ⟨((hW.cell (p := ⟨w.heap.size, 0, none⟩) (by simp <;> omega)).trans (hb1.cell (p := ⟨w.heap.size, 0, none⟩) (by simp <;> omega))).trans (by simp [go_sem]), ((hW.cell (p := ⟨w.heap.size, 1, none⟩) (by simp <;> omega)).trans (hb1.cell (p := ⟨w.heap.size, 1, none⟩) (by simp <;> omega))).trans (by simp [go_sem]), ((hW.cell (p := ⟨w.heap.size, 2, none⟩) (by simp <;> omega)).trans (hb1.cell (p := ⟨w.heap.size, 2, none⟩) (by simp <;> omega))).trans (by simp [go_sem])⟩
    replace E := Lib.hid E
    replace hS1 := Lib.hid hS1
    have HD : Below w1.heap.size w1 w1.drew := (Below.refl _ _).drew
    clear hS hb1
    go_wp2_with fail
    go_region_held3 (fun W => W.cell? ⟨w.heap.size, 0, none⟩ = some (.bool is) ∧ W.cell? ⟨w.heap.size, 1, none⟩ = some (.int .i64 since) ∧ W.cell? ⟨w.heap.size, 2, none⟩ = some (.int .i64 now))
      (first | exact E.out _ HD | exact E.out _ HB3 | exact E.out _ HB4 | exact E.out _ HB5)
      (first
        | (go_at_call 12; refine (bound_any a len cap l is since now top b1 b2 b3 w1.drew hS1.out).mono ?_; rintro e w3 ⟨rfl, hb3⟩; have z3 : w1.heap.size ≤ w3.heap.size := hb3.size; have HB3 : Below w1.heap.size w1 w3 := HD.trans hb3; have hS3 := Lib.hid (hS1.out.below hb3))
        | (go_at_call 14; refine (plain_any a len cap l w3 hS3.out (by omega)).mono ?_; rintro e w4 ⟨v, rfl, hO, hb4⟩; obtain ⟨q, cp, rfl, hR⟩ := hO.row hok; rw [LL.out] at hR ⊢; replace hR := Lib.hid hR; have z4 := hb4.size; have HB4 : Below w1.heap.size w1 w4 := HB3.trans (hb4.mono z3); clear hO)
        | (go_at_call 13; refine (ref_bound q len cp l is since now top b1 b2 b3 w4 hR.out (by omega)).mono ?_; rintro e w5 ⟨rfl, hb5⟩; have HB5 : Below w1.heap.size w1 w5 := HB4.trans (hb5.mono (by omega))))
    all_goals go_wp2
    all_goals (go_ret; exact ⟨ret_bool (by simp), B1.trans (HB5.mono (by omega))⟩)
end Go.Proofs.Ytkdekdogfplbmaa
