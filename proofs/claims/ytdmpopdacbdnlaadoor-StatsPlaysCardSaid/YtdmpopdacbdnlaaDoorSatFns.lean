/- The contracts of package sat's sums and of their reference. -/
import Derived.Test.YtdmpopdacbdnlaaDoorRows
import Derived.Test.YtdmpopdacbdnlaaDoorSatSub
import Derived.BigQuiet
import Derived.Deep.QuietTactic
namespace Go.Proofs.YtdmpopdacbdnlaaDoor
open Go.RowKit
set_option linter.unusedVariables false

theorem sat_add (a b : Int) (w : World) (ha : -9223372036854775808 ≤ a) (ha' : a ≤ 9223372036854775807) (hb : -9223372036854775808 ≤ b) (hb' : b ≤ 9223372036854775807) :
    Calls Tryd.prog 71 #[.int .i64 a, .int .i64 b] w fun e w' => e = pairV (a + b) ∧ w = w' := by
  by_cases h : a + b < -9223372036854775808
  · have h1 : a < wrap64 (a + b) := by rw [wrap_lo h (by omega)]; omega
    have h2 : b < 0 := by omega
    have h3 : ¬ wrap64 (a + b) < a := by omega
    go_enter Tryd.func71, Tryd.ntmps71
    go_wp2
    go_ret2; exact ⟨pairV_lo h, rfl⟩
  · by_cases h' : 9223372036854775807 < a + b
    · have h1 : wrap64 (a + b) < a := by rw [wrap_hi h' (by omega)]; omega
      have h2 : 0 < b := by omega
      go_enter Tryd.func71, Tryd.ntmps71
      go_wp2
      go_ret2; exact ⟨pairV_hi h', rfl⟩
    · go_enter Tryd.func71, Tryd.ntmps71
      go_wp2
      all_goals (go_ret2; exact ⟨pairV_in (by omega) (by omega), rfl⟩)

theorem low_any (a : Int) (w : World) :
    Calls Tryd.prog 110 #[.int .i64 a] w fun e w' => e = .returned (.int .i64 (a % 4294967296)) ∧ w = w' := by
  have hm := Int.tmod_lt_of_pos a (b := 4294967296) (by omega)
  have hm' : -4294967296 < a.tmod 4294967296 := Int.lt_tmod_of_pos a (by omega)
  have hd := Int.emod_nonneg a (b := 4294967296) (by omega)
  have hd' := Int.emod_lt_of_pos a (b := 4294967296) (by omega)
  have e : a.tmod 4294967296 = a % 4294967296 ∨ a.tmod 4294967296 = a % 4294967296 - 4294967296 := by
    rw [Int.tmod_eq_emod]; split <;> simp
  go_enter Tryd.func110, Tryd.ntmps110
  go_wp2
  all_goals (go_ret; exact ⟨ret_int (by omega), rfl⟩)

theorem highs_any (a : Int) (w : World) (ha : -9223372036854775808 ≤ a) (ha' : a ≤ 9223372036854775807) :
    Calls Tryd.prog 109 #[.int .i64 a] w fun e w' => e = .returned (.int .i64 (a / 4294967296)) ∧ w = w' := by
  obtain ⟨f1, f2, f3⟩ := tdiv_facts a
  have f4 : -2147483648 ≤ a.tdiv 4294967296 := by omega
  have f5 : a.tdiv 4294967296 ≤ 2147483648 := by omega
  have H1 := Lib.hid f1; clear f1
  go_enter Tryd.func109, Tryd.ntmps109
  go_wp2
  all_goals (go_ret; have := H1.out; exact ⟨ret_int (by omega), rfl⟩)

theorem whole_any (h l : Int) (w : World) (hh : -4294967297 ≤ h) (hh' : h ≤ 4294967296) (hl : -4294967296 ≤ l) (hl' : l ≤ 8589934592) :
    Calls Tryd.prog 108 #[.int .i64 h, .int .i64 l] w fun e w' => e = pairV (h * 4294967296 + l) ∧ w = w' := by
  go_enter Tryd.func108, Tryd.ntmps108
  go_wp2
  go_loop [0, 1] (fun x y => ∃ a b : Int, x = .int .i64 a ∧ y = .int .i64 b ∧ Hid (a * 4294967296 + b = h * 4294967296 + l) ∧ -4294967296 ≤ b ∧ b ≤ 8589934592 ∧ -5294967297 ≤ a ∧ a ≤ 5294967296) (fun _ y => (- intOf y).toNat)
  case atStart => exact ⟨h, l, rfl, rfl, Lib.hid rfl, by omega, by omega, by omega, by omega⟩
  case round =>
    obtain ⟨a, b, rfl, rfl, H, b1, b2, b3, b4⟩ := hrel
    by_cases hb : b < 0
    · go_wp2
      go_round
      case rel => exact ⟨a - 1, b + 4294967296, rfl, rfl, Lib.hid (by have := H.out; omega), by omega, by omega, by have := H.out; omega, by omega⟩
      case measure => simp [intOf]; omega
    · go_wp2
      go_loop [0, 1] (fun x y => ∃ a b : Int, x = .int .i64 a ∧ y = .int .i64 b ∧ Hid (a * 4294967296 + b = h * 4294967296 + l) ∧ 0 ≤ b ∧ b ≤ 8589934592 ∧ -5294967297 ≤ a ∧ a ≤ 5294967296) (fun _ y => (intOf y).toNat)
      case atStart => exact ⟨a, b, rfl, rfl, H, by omega, by omega, by omega, by omega⟩
      case round =>
        clear H b1 b2 b3 b4 hb
        obtain ⟨a, b, rfl, rfl, H, b1, b2, b3, b4⟩ := hrel
        by_cases hb : 4294967296 ≤ b
        · go_wp2
          go_round
          case rel => exact ⟨a + 1, b - 4294967296, rfl, rfl, Lib.hid (by have := H.out; omega), by omega, by omega, by omega, by have := H.out; omega⟩
          case measure => simp [intOf]; omega
        · by_cases ha : 2147483647 < a
          · go_wp2
            go_ret2; exact ⟨by rw [← H.out]; exact pairV_hi (by omega), rfl⟩
          · by_cases ha' : a < -2147483648
            · go_wp2
              go_ret2; exact ⟨by rw [← H.out]; exact pairV_lo (by omega), rfl⟩
            · go_wp2
              go_ret2; exact ⟨by rw [← H.out]; exact pairV_in (by omega) (by omega), rfl⟩

theorem ref_add (a b : Int) (w : World) (ha : -9223372036854775808 ≤ a) (ha' : a ≤ 9223372036854775807) (hb : -9223372036854775808 ≤ b) (hb' : b ≤ 9223372036854775807) :
    Calls Tryd.prog 75 #[.int .i64 a, .int .i64 b] w fun e w' => e = pairV (a + b) ∧ w = w' := by
  go_enter Tryd.func75, Tryd.ntmps75
  go_wp2_with (first | (go_at_call 109; refine (highs_any _ _ (by omega) (by omega)).mono ?_; rintro e w' ⟨rfl, rfl⟩) | (go_at_call 110; refine (low_any _ _).mono ?_; rintro e w' ⟨rfl, rfl⟩) | (go_at_call 108; refine (whole_any _ _ _ (by omega) (by omega) (by omega) (by omega)).mono ?_; rintro e w' ⟨rfl, rfl⟩; unfold pairV))
  go_ret2; exact ⟨pairV_of (by omega), rfl⟩

end Go.Proofs.YtdmpopdacbdnlaaDoor
