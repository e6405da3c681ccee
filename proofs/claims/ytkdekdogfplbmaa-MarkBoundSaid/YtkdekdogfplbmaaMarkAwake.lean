/- The laws' awake. -/
import Derived.Test.YtkdekdogfplbmaaMarkRun
namespace Go.Proofs.Ytkdekdogfplbmaa
open Go.RowKit
set_option linter.unusedVariables false
set_option linter.unusedSimpArgs false

theorem rowS_mk {w : World} {b : Nat} {l : List Src} (hok : ∀ s ∈ l, s.ok) (hl : b < w.heap.size) (hs : l.length ≤ maxLen)
    (hc : ∀ i, i < l.length → w.cell? ⟨b, 0 + i * 4, none⟩ = some (.bool (l.getD i default).active) ∧ w.cell? ⟨b, 0 + i * 4 + 1, none⟩ = some (.int .i64 (l.getD i default).low) ∧
    w.cell? ⟨b, 0 + i * 4 + 2, none⟩ = some (.bool (l.getD i default).has) ∧ w.cell? ⟨b, 0 + i * 4 + 3, none⟩ = some (.int .i64 (l.getD i default).head)) : RowS w (some ⟨b, 0, none⟩) l.length l :=
  ⟨rfl, hs, hok, .inr ⟨b, 0, rfl, hl, hc⟩⟩
theorem awake_any (w : World) : Calls Try.prog 11 #[] w fun e w' => e = .returned (.bool true) ∧ Below w.heap.size w w' := by
  go_enter Try.func11, Try.ntmps11
  go_wp2_with fail
  refine (bound_any _ _ _ [⟨true, 5, false, 0⟩, ⟨false, 0, true, 4⟩] _ _ _ _ (by omega) (by omega) (by omega) _ (rowS_mk (l := [⟨true, 5, false, 0⟩, ⟨false, 0, true, 4⟩]) (by simp [Src.ok]) (by simp) (by simp [maxLen]) (by intro i hi; obtain rfl | rfl : i = 0 ∨ i = 1 := (by simp at hi; omega); all_goals simp [go_sem]))).mono ?_
  rintro e w1 ⟨rfl, hb1⟩
  rw [show boundOf [⟨true, 5, false, 0⟩, ⟨false, 0, true, 4⟩] false 0 0 20 = 3 from rfl]
  go_wp2_with fail
  refine (bound_any _ _ _ [⟨false, 5, false, 0⟩] _ _ _ _ (by omega) (by omega) (by omega) _ (rowS_mk (l := [⟨false, 5, false, 0⟩]) (by simp [Src.ok]) (by simp) (by simp [maxLen]) (by intro i hi; obtain rfl : i = 0 := (by simp at hi; omega); all_goals simp [go_sem]))).mono ?_
  rintro e w2 ⟨rfl, hb2⟩
  rw [show boundOf [⟨false, 5, false, 0⟩] true 10 17 20 = 27 from rfl]
  have z1 := hb1.size
  have z2 := hb2.size
  simp at z1 z2
  have B1 : Below w.heap.size w w1 := by
    refine Below.trans ?_ (hb1.mono (by simp))
    exact (by repeat (first | with_reducible exact Below.refl _ _ | with_reducible refine Below.drew ?_ | with_reducible refine Below.alloc ?_ (by (try simp) <;> omega) _ | with_reducible refine Below.setCell ?_ (by (try simp) <;> omega) _))
  have B2 : Below w.heap.size w w2 := by
    refine B1.trans (Below.trans ?_ (hb2.mono (by simp; omega)))
    exact (by repeat (first | with_reducible exact Below.refl _ _ | with_reducible refine Below.trans ?_ (Below.mono hb9 (by (try simp) <;> omega)) | with_reducible refine Below.trans ?_ (Below.mono hb8 (by (try simp) <;> omega)) | with_reducible refine Below.trans ?_ (Below.mono hb7 (by (try simp) <;> omega)) | with_reducible refine Below.trans ?_ (Below.mono hb6 (by (try simp) <;> omega)) | with_reducible refine Below.trans ?_ (Below.mono hb5 (by (try simp) <;> omega)) | with_reducible refine Below.trans ?_ (Below.mono hb4 (by (try simp) <;> omega)) | with_reducible refine Below.trans ?_ (Below.mono hb3 (by (try simp) <;> omega)) | with_reducible refine Below.trans ?_ (Below.mono hb2 (by (try simp) <;> omega)) | with_reducible refine Below.trans ?_ (Below.mono hb1 (by (try simp) <;> omega)) | with_reducible refine Below.drew ?_ | with_reducible refine Below.alloc ?_ (by (try simp) <;> omega) _ | with_reducible refine Below.setCell ?_ (by (try simp) <;> omega) _))
  go_wp2_with fail
  refine (mark_new _).mono ?_; rintro e w3 ⟨rfl, m0, f0, hb3, z3⟩
  go_wp2_with fail
  refine (mark_at _ _ _ m0).mono ?_; rintro e w' ⟨rfl, rfl⟩
  go_wp2_with fail
  refine (mark_raise_yes _ _ _ (by omega) _ m0 f0).mono ?_; rintro e w' ⟨rfl, rfl⟩
  go_wp2_with fail
  refine (mark_raise_no _ 3 _ (by omega) _ (by simp [go_sem, m0])).mono ?_; rintro e w' ⟨rfl, rfl⟩
  go_wp2_with fail
  refine (mark_at _ 3 _ (by simp [go_sem, m0])).mono ?_; rintro e w' ⟨rfl, rfl⟩
  go_wp2_with fail
  go_ret
  refine ⟨rfl, (B2.trans (hb3.mono (by omega))).trans ?_⟩
  exact (Below.refl _ _).setCell (by simp only []; omega) _
end Go.Proofs.Ytkdekdogfplbmaa
