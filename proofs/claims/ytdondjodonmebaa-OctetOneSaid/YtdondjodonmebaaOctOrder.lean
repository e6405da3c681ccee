/- The order of numbers' bytes is that of the numbers: plain. -/
import Derived.Test.YtdondjodonmebaaOctOneLaw
namespace Go.Proofs.Ytdondjodonmebaa
open Go.RowKit
set_option linter.unusedVariables false
set_option linter.unusedSimpArgs false
set_option maxRecDepth 8000

theorem less_cons (a b : UInt8) (x y : List UInt8) : Op.bytesLess (a :: x) (b :: y) = (decide (a < b) || (a == b && Op.bytesLess x y)) := by rw [Op.bytesLess]
theorem less_lt {a b : UInt8} (h : a.toNat < b.toNat) (x y : List UInt8) : Op.bytesLess (a :: x) (b :: y) = true := by
  rw [less_cons, decide_eq_true (UInt8.lt_iff_toNat_lt.2 h), Bool.true_or]
theorem less_gt {a b : UInt8} (h : b.toNat < a.toNat) (x y : List UInt8) : Op.bytesLess (a :: x) (b :: y) = false := by
  have h1 : ¬ a < b := fun e => by have := UInt8.lt_iff_toNat_lt.1 e; omega
  have h2 : (a == b) = false := beq_eq_false_iff_ne.2 (fun e => by rw [e] at h; omega)
  rw [less_cons, decide_eq_false h1, h2]; rfl
theorem less_eq (a : UInt8) (x y : List UInt8) : Op.bytesLess (a :: x) (a :: y) = Op.bytesLess x y := by
  have h1 : ¬ a < a := fun e => by have := UInt8.lt_iff_toNat_lt.1 e; omega
  rw [less_cons, decide_eq_false h1, beq_self_eq_true, Bool.false_or, Bool.true_and]
theorem less_same : ∀ a b : List UInt8, a.length = b.length → Op.bytesLess a b = decide (valOf a < valOf b)
  | [], [], _ => by simp [Op.bytesLess, valOf]
  | [], _ :: _, h => by simp at h
  | _ :: _, [], h => by simp at h
  | d :: a, e :: b, h => by
    have hl : a.length = b.length := by simpa using h
    have ih := less_same a b hl
    have ha := valOf_lt a
    have hb := valOf_lt b
    rw [valOf_cons, valOf_cons, ← hl]
    rw [← hl] at hb
    generalize 256 ^ a.length = p at *
    rcases Nat.lt_trichotomy d.toNat e.toNat with hlt | heq | hgt
    · rw [less_lt hlt]
      have := Nat.mul_le_mul_right p (show d.toNat + 1 ≤ e.toNat from hlt)
      rw [Nat.add_mul, Nat.one_mul] at this
      exact (decide_eq_true (by omega)).symm
    · have hde : d = e := UInt8.toNat_inj.1 heq
      subst hde
      rw [less_eq, ih]
      exact decide_eq_decide.2 (by omega)
    · rw [less_gt hgt]
      have := Nat.mul_le_mul_right p (show e.toNat + 1 ≤ d.toNat from hgt)
      rw [Nat.add_mul, Nat.one_mul] at this
      exact (decide_eq_false (by omega)).symm
theorem less_enc {x y : Nat} (hx : x < 18446744073709551616) (hy : y < 18446744073709551616) : Op.bytesLess (enc x) (enc y) = decide (x < y) := by
  by_cases h1 : x < 248
  · have ex := ofNat_nat (n := x) (by omega)
    rw [enc_small h1]
    by_cases h2 : y < 248
    · have ey := ofNat_nat (n := y) (by omega)
      rw [enc_small h2, less_same [UInt8.ofNat x] [UInt8.ofNat y] (by simp)]
      simp only [valOf, List.foldl_cons, List.foldl_nil, ex, ey]
      exact decide_eq_decide.2 (by omega)
    · obtain ⟨n1, n2, n3, n4⟩ := nb_spec (u := y) (by omega) hy
      have ey := ofNat_nat (n := 247 + nb y) (by omega)
      rw [enc_big (by omega), less_lt (by rw [ex, ey]; omega)]
      exact (decide_eq_true (by omega)).symm
  · obtain ⟨n1, n2, n3, n4⟩ := nb_spec (u := x) (by omega) hx
    have ex := ofNat_nat (n := 247 + nb x) (by omega)
    by_cases h2 : y < 248
    · have ey := ofNat_nat (n := y) (by omega)
      rw [enc_small h2, enc_big (by omega), less_gt (by rw [ex, ey]; omega)]
      exact (decide_eq_false (by omega)).symm
    · obtain ⟨m1, m2, m3, m4⟩ := nb_spec (u := y) (by omega) hy
      have ey := ofNat_nat (n := 247 + nb y) (by omega)
      rw [enc_big (by omega), enc_big (u := y) (by omega)]
      rcases Nat.lt_trichotomy (nb x) (nb y) with hlt | heq | hgt
      · rw [less_lt (by rw [ex, ey]; omega)]
        have := Nat.pow_le_pow_right (n := 256) (by omega) (show nb x ≤ nb y - 1 by omega)
        exact (decide_eq_true (by omega)).symm
      · rw [heq] at n4 ⊢
        rw [less_eq, less_same _ _ (by rw [be_length, be_length]), valOf_be n4 _ (Nat.le_refl _), valOf_be m4 _ (Nat.le_refl _), Nat.sub_self, Nat.pow_zero, Nat.div_one, Nat.div_one]
      · rw [less_gt (by rw [ex, ey]; omega)]
        have := Nat.pow_le_pow_right (n := 256) (by omega) (show nb y ≤ nb x - 1 by omega)
        exact (decide_eq_false (by omega)).symm
theorem enc_inj {x y : Nat} (hx : x < 18446744073709551616) (hy : y < 18446744073709551616) (h : enc x = enc y) : x = y := by
  have h1 := take_enc hx []
  have h2 := take_enc hy []
  rw [h, h2] at h1
  exact (congrArg (fun t : Nat × Nat × Int => t.1) h1).symm
theorem beq_enc {x y : Nat} (hx : x < 18446744073709551616) (hy : y < 18446744073709551616) : (enc x == enc y) = ((x : Int) == (y : Int)) := by
  by_cases h : x = y
  · subst h; simp
  · have h1 : (enc x == enc y) = false := beq_eq_false_iff_ne.2 (fun e => h (enc_inj hx hy e))
    have h2 : ((x : Int) == (y : Int)) = false := beq_eq_false_iff_ne.2 (fun e => h (by omega))
    rw [h1, h2]
end Go.Proofs.Ytdondjodonmebaa
