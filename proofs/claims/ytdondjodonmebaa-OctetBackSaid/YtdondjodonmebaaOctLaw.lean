/- Numbers that are put are taken as they were: plain. -/
import Derived.Test.YtdondjodonmebaaOctRead
import Derived.Test.YtdondjodonmebaaOctTexts
namespace Go.Proofs.Ytdondjodonmebaa
open Go.RowKit
set_option linter.unusedVariables false
set_option linter.unusedSimpArgs false

theorem valOf_be {u k : Nat} (hu : u < 256 ^ k) (j : Nat) (hj : j ≤ k) : valOf (be u k j) = u / 256 ^ (k - j) := by
  induction j with
  | zero => rw [Nat.sub_zero, Nat.div_eq_of_lt hu]; rfl
  | succ j ih =>
    rw [be_succ, valOf_snoc, ih (by omega)]
    have e : k - j = (k - 1 - j) + 1 := by omega
    have e2 : k - (j + 1) = k - 1 - j := by omega
    rw [e2, e, Nat.pow_succ, ← Nat.div_div_eq_div_mul]
    unfold byteAt
    rw [UInt8.toNat_ofNat']
    show u / 256 ^ (k - 1 - j) / 256 * 256 + u / 256 ^ (k - 1 - j) % 256 = _
    omega
theorem enc_small {u : Nat} (h : u < 248) : enc u = [UInt8.ofNat u] := by unfold enc; rw [if_pos h]
theorem enc_big {u : Nat} (h : 248 ≤ u) : enc u = UInt8.ofNat (247 + nb u) :: be u (nb u) (nb u) := by unfold enc; rw [if_neg (by omega)]
theorem be_length (u k j : Nat) : (be u k j).length = j := by simp [be]
theorem ofNat_nat {n : Nat} (h : n < 256) : (UInt8.ofNat n).toNat = n := by rw [UInt8.toNat_ofNat', Nat.mod_eq_of_lt h]
theorem take_enc {u : Nat} (hu : u < 18446744073709551616) (rest : List UInt8) : takeOf (enc u ++ rest) = (u, (enc u).length, 0) := by
  by_cases h : u < 248
  · have hx := ofNat_nat (n := u) (by omega)
    rw [enc_small h]
    unfold takeOf
    have e0 : ([UInt8.ofNat u] ++ rest).getD 0 0 = UInt8.ofNat u := rfl
    rw [if_neg (by simp), e0, hx, if_pos h]
    rfl
  · obtain ⟨n1, n2, n3, n4⟩ := nb_spec (u := u) (by omega) hu
    rw [enc_big (by omega)]
    generalize nb u = k at *
    have hx := ofNat_nat (n := 247 + k) (by omega)
    unfold takeOf
    have e0 : (UInt8.ofNat (247 + k) :: be u k k ++ rest).getD 0 0 = UInt8.ofNat (247 + k) := rfl
    have el : (UInt8.ofNat (247 + k) :: be u k k ++ rest).length = k + 1 + rest.length := by simp [be_length]; omega
    rw [if_neg (by omega), e0, hx, if_neg (by omega), if_neg (by omega), Nat.add_sub_cancel_left]
    have ed : ((UInt8.ofNat (247 + k) :: be u k k ++ rest).drop 1).take k = be u k k := by
      show (be u k k ++ rest).take k = be u k k
      rw [List.take_append_of_le_length (by rw [be_length]; exact Nat.le_refl _), List.take_of_length_le (by rw [be_length]; exact Nat.le_refl _)]
    have ev : valOf (be u k k) = u := by rw [valOf_be n4 k (Nat.le_refl _), Nat.sub_self, Nat.pow_zero, Nat.div_one]
    have e1 : (UInt8.ofNat (247 + k) :: be u k k ++ rest).getD 1 0 ≠ 0 := by
      obtain ⟨k', rfl⟩ : ∃ k', k = k' + 1 := ⟨k - 1, by omega⟩
      have : (UInt8.ofNat (247 + (k' + 1)) :: be u (k' + 1) (k' + 1) ++ rest).getD 1 0 = byteAt u (k' + 1) 0 := by
        simp [be, List.range_succ_eq_map, List.getD]
      rw [this]
      intro hz
      have hz' := congrArg UInt8.toNat hz
      unfold byteAt at hz'
      rw [UInt8.toNat_ofNat'] at hz'
      have hlt : u / 256 ^ (k' + 1 - 1 - 0) < 256 := by
        rw [Nat.div_lt_iff_lt_mul (Nat.pow_pos (by omega))]
        rw [Nat.pow_succ] at n4
        simpa [Nat.mul_comm] using n4
      have hge : 1 ≤ u / 256 ^ (k' + 1 - 1 - 0) := by
        rw [Nat.le_div_iff_mul_le (Nat.pow_pos (by omega))]
        simpa using n3
      rw [Nat.mod_eq_of_lt (by simpa using hlt)] at hz'
      have : (0 : UInt8).toNat = 0 := rfl
      omega
    rw [ed, ev, if_neg (fun hh => hh.elim (fun hv => by omega) e1)]
    simp [be_length]; omega
theorem enc_pos (u : Nat) : 0 < (enc u).length := by unfold enc; split <;> simp
theorem num_enc {u : Nat} (hu : u < 18446744073709551616) (rest : List UInt8) : rNum (enc u ++ rest) 0 = (u, rest, 0) := by
  unfold rNum
  rw [if_neg (by simp), take_enc hu, if_neg (by simp)]
  simp
theorem text_enc (s : ByteArray) (hs : s.size ≤ 1000) (rest : List UInt8) (most : Int) : rText (encText s ++ rest) 0 most = if max most 0 < (s.size : Int) then ([], [], 13) else (s.data.toList, rest, 0) := by
  have hl : s.data.toList.length = s.size := by rw [Array.length_toList]; rfl
  unfold rText encText
  rw [List.append_assoc, num_enc (by omega), if_neg (by simp)]
  split
  · rfl
  · rw [if_neg (by simp only [List.length_append]; omega)]
    simp only [← hl, List.take_left, List.drop_left]
end Go.Proofs.Ytdondjodonmebaa
