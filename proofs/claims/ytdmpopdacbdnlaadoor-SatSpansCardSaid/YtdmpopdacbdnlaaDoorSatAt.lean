/- The contracts of spans: At, Meet. -/
import Derived.Test.YtdmpopdacbdnlaaDoorSatSpan
namespace Go.Proofs.YtdmpopdacbdnlaaDoor
open Go.RowKit
set_option linter.unusedVariables false

theorem rightB_true {lo hi : Int} (h : 0 ≤ lo) (h' : lo ≤ hi) : rightB lo hi = true := by simp [rightB, h, h']
theorem rightB_false {lo hi : Int} (h : ¬ (0 ≤ lo ∧ lo ≤ hi)) : rightB lo hi = false := by
  unfold rightB; rw [Bool.and_eq_false_iff, decide_eq_false_iff_not, decide_eq_false_iff_not]; omega

theorem at_ok (lo hi t : Int) (w : World) (h1 : 0 ≤ lo) (h2 : lo ≤ hi) (h3 : 0 ≤ t) (h4 : t + lo ≤ 9223372036854775807) (h5 : hi ≤ 9223372036854775807) :
    Calls Tryd.prog 24 #[.agg #[.int .i64 lo, .int .i64 hi], .int .i64 t] w fun e w' => e = .returned (.tuple #[.agg #[.int .i64 (t + lo), .int .i64 (cut (t + hi))], .bool true]) ∧ Below w.heap.size w w' := by
  have hr := rightB_true h1 h2
  have hw := was_in (x := t + lo) (by omega) h4
  have hx := cut_in (x := t + lo) (by omega) h4
  have hle := cut_le (t + hi)
  have hge : t + lo ≤ cut (t + hi) := by unfold cut; split <;> (try split) <;> omega
  go_enter Tryd.func24, Tryd.ntmps24
  go_wp2_with fail
  refine (right_any _ _ _).mono ?_; rintro e w1 ⟨rfl, hb⟩; obtain ⟨hc, hf⟩ := bcell hb; have hz := hb.size; simp at hz; have hz0 : w.heap.size < w1.heap.size := (by omega); have hz1 : w.heap.size + 1 < w1.heap.size := (by omega)
  go_wp2_with fail
  refine (sat_add _ _ _ (by omega) (by omega) (by omega) (by omega)).mono ?_; rintro e w' ⟨rfl, rfl⟩
  unfold pairV
  go_wp2_with fail
  refine (sat_add _ _ _ (by omega) (by omega) (by omega) (by omega)).mono ?_; rintro e w' ⟨rfl, rfl⟩
  unfold pairV
  go_wp2_with fail
  refine (told_any _ _ hge _).mono ?_; rintro e w2 ⟨rfl, hb2⟩; obtain ⟨hc2, hf2⟩ := bcell hb2; have hz2 := hb2.size; have hy0 : w.heap.size < w2.heap.size := (by omega); have hy1 : w.heap.size + 1 < w2.heap.size := by omega
  go_wp2_with fail
  have hb3 := Below.refl 0 w
  exact bodyPost_ret (v := .tuple #[.agg #[.int .i64 (t + lo), .int .i64 (cut (t + hi))], .bool true]) (by simp [results, Tryd.results24, go_sem, hc, hc2, hz1]) rfl ⟨rfl, (by repeat (first | with_reducible exact Below.refl _ _ | with_reducible refine Below.trans ?_ (Below.mono hb3 (by (try simp) <;> omega)) | with_reducible refine Below.trans ?_ (Below.mono hb2 (by (try simp) <;> omega)) | with_reducible refine Below.trans ?_ (Below.mono hb (by (try simp) <;> omega)) | with_reducible refine Below.drew ?_ | with_reducible refine Below.alloc ?_ (by (try simp) <;> omega) _ | with_reducible refine Below.setCell ?_ (by (try simp) <;> omega) _))⟩

theorem at_bad (lo hi t : Int) (w : World) (h1 : ¬ (0 ≤ lo ∧ lo ≤ hi)) :
    Calls Tryd.prog 24 #[.agg #[.int .i64 lo, .int .i64 hi], .int .i64 t] w fun e w' => e = .returned (.tuple #[.agg #[.int .i64 0, .int .i64 0], .bool false]) ∧ Below w.heap.size w w' := by
  have hr := rightB_false h1
  clear h1
  go_enter Tryd.func24, Tryd.ntmps24
  go_wp2_with fail
  refine (right_any _ _ _).mono ?_; rintro e w1 ⟨rfl, hb⟩; obtain ⟨hc, hf⟩ := bcell hb; have hz := hb.size; simp at hz; have hz0 : w.heap.size < w1.heap.size := (by omega); have hz1 : w.heap.size + 1 < w1.heap.size := (by omega)
  go_wp2_with fail
  refine (none_any _).mono ?_; rintro e w2 ⟨rfl, hb2⟩; obtain ⟨hc2, hf2⟩ := bcell hb2; have hz2 := hb2.size; have hy0 : w.heap.size < w2.heap.size := (by omega); have hy1 : w.heap.size + 1 < w2.heap.size := (by omega)
  go_wp2_with fail
  refine (told_none _).mono ?_; rintro e w3 ⟨rfl, hb3⟩; obtain ⟨hc3, hf3⟩ := bcell hb3; have hz3 := hb3.size; have hx0 : w.heap.size < w3.heap.size := (by omega); have hx1 : w.heap.size + 1 < w3.heap.size := (by omega)
  go_wp2_with fail
  exact bodyPost_ret (v := .tuple #[.agg #[.int .i64 0, .int .i64 0], .bool false]) (by simp [results, Tryd.results24, go_sem, hc, hc2, hc3, hz1, hy1]) rfl ⟨rfl, (by repeat (first | with_reducible exact Below.refl _ _ | with_reducible refine Below.trans ?_ (Below.mono hb3 (by (try simp) <;> omega)) | with_reducible refine Below.trans ?_ (Below.mono hb2 (by (try simp) <;> omega)) | with_reducible refine Below.trans ?_ (Below.mono hb (by (try simp) <;> omega)) | with_reducible refine Below.drew ?_ | with_reducible refine Below.alloc ?_ (by (try simp) <;> omega) _ | with_reducible refine Below.setCell ?_ (by (try simp) <;> omega) _))⟩

theorem at_neg (lo hi t : Int) (w : World) (h1 : 0 ≤ lo) (h2 : lo ≤ hi) (h3 : t < 0) :
    Calls Tryd.prog 24 #[.agg #[.int .i64 lo, .int .i64 hi], .int .i64 t] w fun e w' => e = .returned (.tuple #[.agg #[.int .i64 0, .int .i64 0], .bool false]) ∧ Below w.heap.size w w' := by
  have hr := rightB_true h1 h2
  go_enter Tryd.func24, Tryd.ntmps24
  go_wp2_with fail
  refine (right_any _ _ _).mono ?_; rintro e w1 ⟨rfl, hb⟩; obtain ⟨hc, hf⟩ := bcell hb; have hz := hb.size; simp at hz; have hz0 : w.heap.size < w1.heap.size := (by omega); have hz1 : w.heap.size + 1 < w1.heap.size := (by omega)
  go_wp2_with fail
  refine (none_any _).mono ?_; rintro e w2 ⟨rfl, hb2⟩; obtain ⟨hc2, hf2⟩ := bcell hb2; have hz2 := hb2.size; have hy0 : w.heap.size < w2.heap.size := (by omega); have hy1 : w.heap.size + 1 < w2.heap.size := (by omega)
  go_wp2_with fail
  refine (told_none _).mono ?_; rintro e w3 ⟨rfl, hb3⟩; obtain ⟨hc3, hf3⟩ := bcell hb3; have hz3 := hb3.size; have hx0 : w.heap.size < w3.heap.size := (by omega); have hx1 : w.heap.size + 1 < w3.heap.size := (by omega)
  go_wp2_with fail
  exact bodyPost_ret (v := .tuple #[.agg #[.int .i64 0, .int .i64 0], .bool false]) (by simp [results, Tryd.results24, go_sem, hc, hc2, hc3, hz1, hy1]) rfl ⟨rfl, (by repeat (first | with_reducible exact Below.refl _ _ | with_reducible refine Below.trans ?_ (Below.mono hb3 (by (try simp) <;> omega)) | with_reducible refine Below.trans ?_ (Below.mono hb2 (by (try simp) <;> omega)) | with_reducible refine Below.trans ?_ (Below.mono hb (by (try simp) <;> omega)) | with_reducible refine Below.drew ?_ | with_reducible refine Below.alloc ?_ (by (try simp) <;> omega) _ | with_reducible refine Below.setCell ?_ (by (try simp) <;> omega) _))⟩

theorem at_cut (lo hi t : Int) (w : World) (h1 : 0 ≤ lo) (h2 : lo ≤ hi) (h3 : 0 ≤ t) (h4 : 9223372036854775807 < t + lo) (h5 : lo ≤ 9223372036854775807) (h6 : t ≤ 9223372036854775807) :
    Calls Tryd.prog 24 #[.agg #[.int .i64 lo, .int .i64 hi], .int .i64 t] w fun e w' => e = .returned (.tuple #[.agg #[.int .i64 0, .int .i64 0], .bool false]) ∧ Below w.heap.size w w' := by
  have hr := rightB_true h1 h2
  have hw := was_hi h4
  go_enter Tryd.func24, Tryd.ntmps24
  go_wp2_with fail
  refine (right_any _ _ _).mono ?_; rintro e w1 ⟨rfl, hb⟩; obtain ⟨hc, hf⟩ := bcell hb; have hz := hb.size; simp at hz; have hz0 : w.heap.size < w1.heap.size := (by omega); have hz1 : w.heap.size + 1 < w1.heap.size := (by omega)
  go_wp2_with fail
  refine (sat_add _ _ _ (by omega) (by omega) (by omega) (by omega)).mono ?_; rintro e w' ⟨rfl, rfl⟩
  unfold pairV
  go_wp2_with fail
  refine (none_any _).mono ?_; rintro e w2 ⟨rfl, hb2⟩; obtain ⟨hc2, hf2⟩ := bcell hb2; have hz2 := hb2.size; have hy0 : w.heap.size < w2.heap.size := (by omega); have hy1 : w.heap.size + 1 < w2.heap.size := (by omega)
  go_wp2_with fail
  refine (told_none _).mono ?_; rintro e w3 ⟨rfl, hb3⟩; obtain ⟨hc3, hf3⟩ := bcell hb3; have hz3 := hb3.size; have hx0 : w.heap.size < w3.heap.size := (by omega); have hx1 : w.heap.size + 1 < w3.heap.size := (by omega)
  go_wp2_with fail
  exact bodyPost_ret (v := .tuple #[.agg #[.int .i64 0, .int .i64 0], .bool false]) (by simp [results, Tryd.results24, go_sem, hc, hc2, hc3, hz1, hy1]) rfl ⟨rfl, (by repeat (first | with_reducible exact Below.refl _ _ | with_reducible refine Below.trans ?_ (Below.mono hb3 (by (try simp) <;> omega)) | with_reducible refine Below.trans ?_ (Below.mono hb2 (by (try simp) <;> omega)) | with_reducible refine Below.trans ?_ (Below.mono hb (by (try simp) <;> omega)) | with_reducible refine Below.drew ?_ | with_reducible refine Below.alloc ?_ (by (try simp) <;> omega) _ | with_reducible refine Below.setCell ?_ (by (try simp) <;> omega) _))⟩

def mxI (a b : Int) : Int := if b ≤ a then a else b
def mnI (a b : Int) : Int := if a ≤ b then a else b

theorem meet_yes (lo hi lo' hi' : Int) (w : World) (h : mxI lo lo' ≤ mnI hi hi') :
    Calls Tryd.prog 26 #[.agg #[.int .i64 lo, .int .i64 hi], .agg #[.int .i64 lo', .int .i64 hi']] w fun e w' => e = .returned (.tuple #[.agg #[.int .i64 (mxI lo lo'), .int .i64 (mnI hi hi')], .bool true]) ∧ Below w.heap.size w w' := by
  unfold mxI mnI at *
  by_cases h1 : lo' ≤ lo
  · by_cases h2 : hi ≤ hi'
    · rw [if_pos h1, if_pos h2] at *
      go_enter Tryd.func26, Tryd.ntmps26; go_wp2_with fail; refine (told_any _ _ (by omega) _).mono ?_; rintro e w1 ⟨rfl, hb⟩; obtain ⟨hc, hf⟩ := bcell hb; have hz := hb.size; simp at hz; have hz0 : w.heap.size + 1 + 1 < w1.heap.size := (by omega); go_wp2_with fail; have hb2 := Below.refl 0 w; have hb3 := hb2; exact bodyPost_ret (v := .tuple #[.agg #[.int .i64 lo, .int .i64 hi], .bool true]) (by simp [results, Tryd.results26, go_sem, hc]) rfl ⟨rfl, (by repeat (first | with_reducible exact Below.refl _ _ | with_reducible refine Below.trans ?_ (Below.mono hb3 (by (try simp) <;> omega)) | with_reducible refine Below.trans ?_ (Below.mono hb2 (by (try simp) <;> omega)) | with_reducible refine Below.trans ?_ (Below.mono hb (by (try simp) <;> omega)) | with_reducible refine Below.drew ?_ | with_reducible refine Below.alloc ?_ (by (try simp) <;> omega) _ | with_reducible refine Below.setCell ?_ (by (try simp) <;> omega) _))⟩
    · rw [if_pos h1, if_neg h2] at *
      go_enter Tryd.func26, Tryd.ntmps26; go_wp2_with fail; refine (told_any _ _ (by omega) _).mono ?_; rintro e w1 ⟨rfl, hb⟩; obtain ⟨hc, hf⟩ := bcell hb; have hz := hb.size; simp at hz; have hz0 : w.heap.size + 1 + 1 < w1.heap.size := (by omega); go_wp2_with fail; have hb2 := Below.refl 0 w; have hb3 := hb2; exact bodyPost_ret (v := .tuple #[.agg #[.int .i64 lo, .int .i64 hi'], .bool true]) (by simp [results, Tryd.results26, go_sem, hc]) rfl ⟨rfl, (by repeat (first | with_reducible exact Below.refl _ _ | with_reducible refine Below.trans ?_ (Below.mono hb3 (by (try simp) <;> omega)) | with_reducible refine Below.trans ?_ (Below.mono hb2 (by (try simp) <;> omega)) | with_reducible refine Below.trans ?_ (Below.mono hb (by (try simp) <;> omega)) | with_reducible refine Below.drew ?_ | with_reducible refine Below.alloc ?_ (by (try simp) <;> omega) _ | with_reducible refine Below.setCell ?_ (by (try simp) <;> omega) _))⟩
  · by_cases h2 : hi ≤ hi'
    · rw [if_neg h1, if_pos h2] at *
      go_enter Tryd.func26, Tryd.ntmps26; go_wp2_with fail; refine (told_any _ _ (by omega) _).mono ?_; rintro e w1 ⟨rfl, hb⟩; obtain ⟨hc, hf⟩ := bcell hb; have hz := hb.size; simp at hz; have hz0 : w.heap.size + 1 + 1 < w1.heap.size := (by omega); go_wp2_with fail; have hb2 := Below.refl 0 w; have hb3 := hb2; exact bodyPost_ret (v := .tuple #[.agg #[.int .i64 lo', .int .i64 hi], .bool true]) (by simp [results, Tryd.results26, go_sem, hc]) rfl ⟨rfl, (by repeat (first | with_reducible exact Below.refl _ _ | with_reducible refine Below.trans ?_ (Below.mono hb3 (by (try simp) <;> omega)) | with_reducible refine Below.trans ?_ (Below.mono hb2 (by (try simp) <;> omega)) | with_reducible refine Below.trans ?_ (Below.mono hb (by (try simp) <;> omega)) | with_reducible refine Below.drew ?_ | with_reducible refine Below.alloc ?_ (by (try simp) <;> omega) _ | with_reducible refine Below.setCell ?_ (by (try simp) <;> omega) _))⟩
    · rw [if_neg h1, if_neg h2] at *
      go_enter Tryd.func26, Tryd.ntmps26; go_wp2_with fail; refine (told_any _ _ (by omega) _).mono ?_; rintro e w1 ⟨rfl, hb⟩; obtain ⟨hc, hf⟩ := bcell hb; have hz := hb.size; simp at hz; have hz0 : w.heap.size + 1 + 1 < w1.heap.size := (by omega); go_wp2_with fail; have hb2 := Below.refl 0 w; have hb3 := hb2; exact bodyPost_ret (v := .tuple #[.agg #[.int .i64 lo', .int .i64 hi'], .bool true]) (by simp [results, Tryd.results26, go_sem, hc]) rfl ⟨rfl, (by repeat (first | with_reducible exact Below.refl _ _ | with_reducible refine Below.trans ?_ (Below.mono hb3 (by (try simp) <;> omega)) | with_reducible refine Below.trans ?_ (Below.mono hb2 (by (try simp) <;> omega)) | with_reducible refine Below.trans ?_ (Below.mono hb (by (try simp) <;> omega)) | with_reducible refine Below.drew ?_ | with_reducible refine Below.alloc ?_ (by (try simp) <;> omega) _ | with_reducible refine Below.setCell ?_ (by (try simp) <;> omega) _))⟩

theorem meet_no (lo hi lo' hi' : Int) (w : World) (h : ¬ mxI lo lo' ≤ mnI hi hi') :
    Calls Tryd.prog 26 #[.agg #[.int .i64 lo, .int .i64 hi], .agg #[.int .i64 lo', .int .i64 hi']] w fun e w' => e = .returned (.tuple #[.agg #[.int .i64 0, .int .i64 0], .bool false]) ∧ Below w.heap.size w w' := by
  unfold mxI mnI at *
  by_cases h1 : lo' ≤ lo
  · by_cases h2 : hi ≤ hi'
    · rw [if_pos h1, if_pos h2] at *
      go_enter Tryd.func26, Tryd.ntmps26; go_wp2_with fail; refine (none_any _).mono ?_; rintro e w2 ⟨rfl, hb⟩; obtain ⟨hc, hf⟩ := bcell hb; have hz2 := hb.size; simp at hz2; have hy2 : w.heap.size + 1 + 1 + 1 < w2.heap.size := (by omega); go_wp2_with fail; refine (told_none _).mono ?_; rintro e w3 ⟨rfl, hb2⟩; obtain ⟨hc3, hf3⟩ := bcell hb2; have hz3 := hb2.size; (try simp at hz3); have hz0 : w.heap.size + 1 + 1 < w2.heap.size := (by omega); have hz1 : w.heap.size + 1 + 1 < w3.heap.size := (by omega); go_wp2_with fail; have hb3 := Below.refl 0 w; exact bodyPost_ret (v := .tuple #[.agg #[.int .i64 0, .int .i64 0], .bool false]) (by simp [results, Tryd.results26, go_sem, hc, hc3, hz0]) rfl ⟨rfl, (by repeat (first | with_reducible exact Below.refl _ _ | with_reducible refine Below.trans ?_ (Below.mono hb3 (by (try simp) <;> omega)) | with_reducible refine Below.trans ?_ (Below.mono hb2 (by (try simp) <;> omega)) | with_reducible refine Below.trans ?_ (Below.mono hb (by (try simp) <;> omega)) | with_reducible refine Below.drew ?_ | with_reducible refine Below.alloc ?_ (by (try simp) <;> omega) _ | with_reducible refine Below.setCell ?_ (by (try simp) <;> omega) _))⟩
    · rw [if_pos h1, if_neg h2] at *
      go_enter Tryd.func26, Tryd.ntmps26; go_wp2_with fail; refine (none_any _).mono ?_; rintro e w2 ⟨rfl, hb⟩; obtain ⟨hc, hf⟩ := bcell hb; have hz2 := hb.size; simp at hz2; have hy2 : w.heap.size + 1 + 1 + 1 < w2.heap.size := (by omega); go_wp2_with fail; refine (told_none _).mono ?_; rintro e w3 ⟨rfl, hb2⟩; obtain ⟨hc3, hf3⟩ := bcell hb2; have hz3 := hb2.size; (try simp at hz3); have hz0 : w.heap.size + 1 + 1 < w2.heap.size := (by omega); have hz1 : w.heap.size + 1 + 1 < w3.heap.size := (by omega); go_wp2_with fail; have hb3 := Below.refl 0 w; exact bodyPost_ret (v := .tuple #[.agg #[.int .i64 0, .int .i64 0], .bool false]) (by simp [results, Tryd.results26, go_sem, hc, hc3, hz0]) rfl ⟨rfl, (by repeat (first | with_reducible exact Below.refl _ _ | with_reducible refine Below.trans ?_ (Below.mono hb3 (by (try simp) <;> omega)) | with_reducible refine Below.trans ?_ (Below.mono hb2 (by (try simp) <;> omega)) | with_reducible refine Below.trans ?_ (Below.mono hb (by (try simp) <;> omega)) | with_reducible refine Below.drew ?_ | with_reducible refine Below.alloc ?_ (by (try simp) <;> omega) _ | with_reducible refine Below.setCell ?_ (by (try simp) <;> omega) _))⟩
  · by_cases h2 : hi ≤ hi'
    · rw [if_neg h1, if_pos h2] at *
      go_enter Tryd.func26, Tryd.ntmps26; go_wp2_with fail; refine (none_any _).mono ?_; rintro e w2 ⟨rfl, hb⟩; obtain ⟨hc, hf⟩ := bcell hb; have hz2 := hb.size; simp at hz2; have hy2 : w.heap.size + 1 + 1 + 1 < w2.heap.size := (by omega); go_wp2_with fail; refine (told_none _).mono ?_; rintro e w3 ⟨rfl, hb2⟩; obtain ⟨hc3, hf3⟩ := bcell hb2; have hz3 := hb2.size; (try simp at hz3); have hz0 : w.heap.size + 1 + 1 < w2.heap.size := (by omega); have hz1 : w.heap.size + 1 + 1 < w3.heap.size := (by omega); go_wp2_with fail; have hb3 := Below.refl 0 w; exact bodyPost_ret (v := .tuple #[.agg #[.int .i64 0, .int .i64 0], .bool false]) (by simp [results, Tryd.results26, go_sem, hc, hc3, hz0]) rfl ⟨rfl, (by repeat (first | with_reducible exact Below.refl _ _ | with_reducible refine Below.trans ?_ (Below.mono hb3 (by (try simp) <;> omega)) | with_reducible refine Below.trans ?_ (Below.mono hb2 (by (try simp) <;> omega)) | with_reducible refine Below.trans ?_ (Below.mono hb (by (try simp) <;> omega)) | with_reducible refine Below.drew ?_ | with_reducible refine Below.alloc ?_ (by (try simp) <;> omega) _ | with_reducible refine Below.setCell ?_ (by (try simp) <;> omega) _))⟩
    · rw [if_neg h1, if_neg h2] at *
      go_enter Tryd.func26, Tryd.ntmps26; go_wp2_with fail; refine (none_any _).mono ?_; rintro e w2 ⟨rfl, hb⟩; obtain ⟨hc, hf⟩ := bcell hb; have hz2 := hb.size; simp at hz2; have hy2 : w.heap.size + 1 + 1 + 1 < w2.heap.size := (by omega); go_wp2_with fail; refine (told_none _).mono ?_; rintro e w3 ⟨rfl, hb2⟩; obtain ⟨hc3, hf3⟩ := bcell hb2; have hz3 := hb2.size; (try simp at hz3); have hz0 : w.heap.size + 1 + 1 < w2.heap.size := (by omega); have hz1 : w.heap.size + 1 + 1 < w3.heap.size := (by omega); go_wp2_with fail; have hb3 := Below.refl 0 w; exact bodyPost_ret (v := .tuple #[.agg #[.int .i64 0, .int .i64 0], .bool false]) (by simp [results, Tryd.results26, go_sem, hc, hc3, hz0]) rfl ⟨rfl, (by repeat (first | with_reducible exact Below.refl _ _ | with_reducible refine Below.trans ?_ (Below.mono hb3 (by (try simp) <;> omega)) | with_reducible refine Below.trans ?_ (Below.mono hb2 (by (try simp) <;> omega)) | with_reducible refine Below.trans ?_ (Below.mono hb (by (try simp) <;> omega)) | with_reducible refine Below.drew ?_ | with_reducible refine Below.alloc ?_ (by (try simp) <;> omega) _ | with_reducible refine Below.setCell ?_ (by (try simp) <;> omega) _))⟩
end Go.Proofs.YtdmpopdacbdnlaaDoor
