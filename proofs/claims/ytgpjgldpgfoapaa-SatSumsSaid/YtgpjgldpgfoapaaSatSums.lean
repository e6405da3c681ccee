/- The walk of package sat's law on sums of many. -/
import Derived.Test.YtgpjgldpgfoapaaSatLaws
namespace Go.Proofs.Ytgpjgldpgfoapaa
open Go.RowKit
set_option linter.unusedVariables false
set_option linter.unusedSimpArgs false

def sumS (zs : List Int) : Nat → Int
  | 0 => 0
  | k + 1 => cut (sumS zs k + zs.getD k 0)
def sumB (zs : List Int) : Nat → Bool
  | 0 => false
  | k + 1 => sumB zs k || was (sumS zs k + zs.getD k 0)
theorem sumS_ge (zs : List Int) (k : Nat) : -9223372036854775808 ≤ sumS zs k := by cases k <;> simp only [sumS] <;> first | omega | exact cut_ge _
theorem sumS_le (zs : List Int) (k : Nat) : sumS zs k ≤ 9223372036854775807 := by cases k <;> simp only [sumS] <;> first | omega | exact cut_le _

theorem sat_sum (a : Option Addr) (len cap : Nat) (zs : List Int) (w : World) (h : RowI .i64 w a len cap zs) :
    Calls Try.prog 16 #[.slice a len cap] w fun e w' => e = .returned (.tuple #[.int .i64 (sumS zs len), .bool (sumB zs len)]) ∧ w = w' := by
  have hm : len ≤ 9223372036854775807 := by have := h.small; unfold maxLen at this; omega
  go_enter Try.func16, Try.ntmps16
  go_wp2_with fail
  go_loop [4, 5, 12] (fun s b i => ∃ k : Nat, k ≤ len ∧ i = .int .i64 k ∧ s = .int .i64 (sumS zs k) ∧ b = .bool (sumB zs k)) (fun _ _ i => len - (intOf i).toNat)
  case atStart => exact ⟨0, Nat.zero_le _, rfl, rfl, rfl⟩
  case round =>
    obtain ⟨k, hk, rfl, rfl, rfl⟩ := hrel
    have g1 := sumS_ge zs k
    have g2 := sumS_le zs k
    obtain ⟨g3, g4⟩ := h.range k
    by_cases hlt : k < len
    · rcases h.at_ with h0 | ⟨b, off, rfl, hl, hc⟩
      · omega
      have hck := hc k hlt
      clear hc
      generalize hz : zs.getD k 0 = z at *
      have HZ := Lib.hid hz; clear hz
      cases hb : sumB zs k
      · go_wp2_with fail
        refine (sat_add _ _ _ (by omega) (by omega) (by omega) (by omega)).mono ?_; rintro e w' ⟨rfl, rfl⟩
        unfold pairV
        go_wp2_with fail
        go_round
        case rel => exact ⟨k + 1, by omega, by go_num, by simp only [sumS, HZ.out], by simp only [sumB, HZ.out, hb, Bool.false_or]⟩
        case measure => simp [intOf]; omega
      · go_wp2_with fail
        refine (sat_add _ _ _ (by omega) (by omega) (by omega) (by omega)).mono ?_; rintro e w' ⟨rfl, rfl⟩
        unfold pairV
        go_wp2_with fail
        go_round
        case rel => exact ⟨k + 1, by omega, by go_num, by simp only [sumS, HZ.out], by simp only [sumB, hb, Bool.true_or]⟩
        case measure => simp [intOf]; omega
    · obtain rfl : k = len := by omega
      go_wp2_with fail
      go_ret2
      exact ⟨rfl, rfl⟩

theorem ref_sum (a : Option Addr) (len cap : Nat) (zs : List Int) (w : World) (h : RowI .i64 w a len cap zs) :
    Calls Try.prog 17 #[.slice a len cap] w fun e w' => e = .returned (.tuple #[.int .i64 (sumS zs len), .bool (sumB zs len)]) ∧ w = w' := by
  have hm : len ≤ 9223372036854775807 := by have := h.small; unfold maxLen at this; omega
  go_enter Try.func17, Try.ntmps17
  go_wp2_with fail
  go_loop [4, 5, 6] (fun s b i => ∃ k : Nat, k ≤ len ∧ i = .int .i64 k ∧ s = .int .i64 (sumS zs k) ∧ b = .bool (sumB zs k)) (fun _ _ i => len - (intOf i).toNat)
  case atStart => exact ⟨0, Nat.zero_le _, rfl, rfl, rfl⟩
  case round =>
    obtain ⟨k, hk, rfl, rfl, rfl⟩ := hrel
    have g1 := sumS_ge zs k
    have g2 := sumS_le zs k
    obtain ⟨g3, g4⟩ := h.range k
    by_cases hlt : k < len
    · rcases h.at_ with h0 | ⟨b, off, rfl, hl, hc⟩
      · omega
      have hck := hc k hlt
      clear hc
      generalize hz : zs.getD k 0 = z at *
      have HZ := Lib.hid hz; clear hz
      cases hb : sumB zs k
      · go_wp2_with fail
        refine (ref_add _ _ _ (by omega) (by omega) (by omega) (by omega)).mono ?_; rintro e w' ⟨rfl, rfl⟩
        unfold pairV
        go_wp2_with fail
        go_round
        case rel => exact ⟨k + 1, by omega, by go_num, by simp only [sumS, HZ.out], by simp only [sumB, HZ.out, hb, Bool.false_or]⟩
        case measure => simp [intOf]; omega
      · go_wp2_with fail
        refine (ref_add _ _ _ (by omega) (by omega) (by omega) (by omega)).mono ?_; rintro e w' ⟨rfl, rfl⟩
        unfold pairV
        go_wp2_with fail
        go_round
        case rel => exact ⟨k + 1, by omega, by go_num, by simp only [sumS, HZ.out], by simp only [sumB, hb, Bool.true_or]⟩
        case measure => simp [intOf]; omega
    · obtain rfl : k = len := by omega
      go_wp2_with fail
      go_ret2
      exact ⟨rfl, rfl⟩

theorem satSums_walk (a : Option Addr) (len cap : Nat) (zs0 : List Int) (w : World) (h0 : IsRow .i64 w a len cap zs0) :
    Calls Try.prog 6 #[.slice a len cap] w fun e w' => e = .returned (.bool true) ∧ Below w.heap.size w w' := by
  have h := h0.row
  generalize zs0.take len = zs at h
  by_cases hl : 200 < len
  · go_enter Try.func6, Try.ntmps6
    go_wp2_with fail
    refine (sat_awake _).mono ?_; rintro e w1 ⟨rfl, hb1⟩; obtain ⟨hc1, hf1⟩ := bcell hb1; have hz1 := hb1.size; (try simp at hz1)
    go_wp2_with fail
    go_ret
    exact ⟨rfl, (by repeat (first | with_reducible exact Below.refl _ _ | with_reducible refine Below.trans ?_ (Below.mono hb9 (by (try simp) <;> omega)) | with_reducible refine Below.trans ?_ (Below.mono hb8 (by (try simp) <;> omega)) | with_reducible refine Below.trans ?_ (Below.mono hb7 (by (try simp) <;> omega)) | with_reducible refine Below.trans ?_ (Below.mono hb6 (by (try simp) <;> omega)) | with_reducible refine Below.trans ?_ (Below.mono hb5 (by (try simp) <;> omega)) | with_reducible refine Below.trans ?_ (Below.mono hb4 (by (try simp) <;> omega)) | with_reducible refine Below.trans ?_ (Below.mono hb3 (by (try simp) <;> omega)) | with_reducible refine Below.trans ?_ (Below.mono hb2 (by (try simp) <;> omega)) | with_reducible refine Below.trans ?_ (Below.mono hb1 (by (try simp) <;> omega)) | with_reducible refine Below.drew ?_ | with_reducible refine Below.alloc ?_ (by (try simp) <;> omega) _ | with_reducible refine Below.setCell ?_ (by (try simp) <;> omega) _))⟩
  · go_enter Try.func6, Try.ntmps6
    go_wp2_with fail
    refine (sat_awake _).mono ?_; rintro e w1 ⟨rfl, hb1⟩; obtain ⟨hc1, hf1⟩ := bcell hb1; have hz1 := hb1.size; (try simp at hz1)
    go_wp2_with fail
    refine (sat_sum _ _ _ zs _ (h.below hb1)).mono ?_; rintro e w' ⟨rfl, rfl⟩
    go_wp2_with fail
    refine (ref_sum _ _ _ zs _ (h.below hb1)).mono ?_; rintro e w' ⟨rfl, rfl⟩
    go_wp2_with fail
    go_ret
    exact ⟨by simp, (by repeat (first | with_reducible exact Below.refl _ _ | with_reducible refine Below.trans ?_ (Below.mono hb9 (by (try simp) <;> omega)) | with_reducible refine Below.trans ?_ (Below.mono hb8 (by (try simp) <;> omega)) | with_reducible refine Below.trans ?_ (Below.mono hb7 (by (try simp) <;> omega)) | with_reducible refine Below.trans ?_ (Below.mono hb6 (by (try simp) <;> omega)) | with_reducible refine Below.trans ?_ (Below.mono hb5 (by (try simp) <;> omega)) | with_reducible refine Below.trans ?_ (Below.mono hb4 (by (try simp) <;> omega)) | with_reducible refine Below.trans ?_ (Below.mono hb3 (by (try simp) <;> omega)) | with_reducible refine Below.trans ?_ (Below.mono hb2 (by (try simp) <;> omega)) | with_reducible refine Below.trans ?_ (Below.mono hb1 (by (try simp) <;> omega)) | with_reducible refine Below.drew ?_ | with_reducible refine Below.alloc ?_ (by (try simp) <;> omega) _ | with_reducible refine Below.setCell ?_ (by (try simp) <;> omega) _))⟩
end Go.Proofs.Ytgpjgldpgfoapaa
