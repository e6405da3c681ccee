/- Bytes that are taken are those that their number is put as; the order of bytes: plain. -/
import Derived.Test.YtdondjodonmebaaOctLaw
namespace Go.Proofs.Ytdondjodonmebaa
open Go.RowKit
set_option linter.unusedVariables false
set_option linter.unusedSimpArgs false
set_option maxRecDepth 8000

theorem take_zero (bs : List UInt8) (h : ¬ (takeOf bs).2.2 = 0) : (takeOf bs).1 = 0 ∧ (takeOf bs).2.1 = 0 := by
  revert h
  unfold takeOf
  split
  · simp
  · split
    · simp
    · split
      · simp
      · split <;> simp
theorem byteAt_div (u k i : Nat) (h : i < k) : byteAt u (k + 1) i = byteAt (u / 256) k i := by
  unfold byteAt
  rw [show k + 1 - 1 - i = (k - 1 - i) + 1 from by omega, Nat.pow_succ, Nat.mul_comm, ← Nat.div_div_eq_div_mul]
theorem be_div (u k : Nat) : be u (k + 1) (k + 1) = be (u / 256) k k ++ [UInt8.ofNat u] := by
  rw [be_succ]
  congr 1
  · unfold be
    refine List.map_congr_left fun i hi => byteAt_div u k i (List.mem_range.1 hi)
  · unfold byteAt; rw [show k + 1 - 1 - k = 0 from by omega, Nat.pow_zero, Nat.div_one]
theorem be_val (k : Nat) : ∀ ds : List UInt8, ds.length = k → be (valOf ds) k k = ds := by
  induction k with
  | zero => intro ds h; rw [List.eq_nil_of_length_eq_zero h]; rfl
  | succ k ih =>
    intro ds h
    have e : ds = ds.take k ++ [ds.getD k 0] := by
      conv => lhs; rw [← List.take_of_length_le (Nat.le_of_eq h)]
      rw [List.take_succ_eq_append_getElem (by omega)]
      simp [List.getD, show k < ds.length from by omega]
    rw [e, valOf_snoc, be_div]
    have hb := (ds.getD k 0).toNat_lt
    generalize ds.getD k 0 = b at *
    have e1 : (valOf (ds.take k) * 256 + b.toNat) / 256 = valOf (ds.take k) := by omega
    rw [e1, ih _ (by rw [List.length_take]; omega)]
    congr 2
    refine UInt8.toNat_inj.1 ?_
    rw [UInt8.toNat_ofNat']
    show (valOf (ds.take k) * 256 + b.toNat) % 256 = b.toNat
    omega
theorem valOf_from (ds : List UInt8) (a : Nat) : ds.foldl (fun a b => a * 256 + b.toNat) a = a * 256 ^ ds.length + valOf ds := by
  unfold valOf
  induction ds generalizing a with
  | nil => simp
  | cons d ds ih =>
    rw [List.foldl_cons, ih, List.foldl_cons, ih (0 * 256 + d.toNat), List.length_cons, Nat.pow_succ]
    rw [Nat.add_mul, Nat.zero_mul, Nat.zero_add, Nat.mul_assoc, Nat.mul_comm 256, Nat.add_assoc]
theorem valOf_cons (d : UInt8) (ds : List UInt8) : valOf (d :: ds) = d.toNat * 256 ^ ds.length + valOf ds := by
  have := valOf_from ds (0 * 256 + d.toNat)
  rw [Nat.zero_mul, Nat.zero_add] at this
  unfold valOf
  rw [List.foldl_cons, Nat.zero_mul, Nat.zero_add, this]
  rfl
theorem nb_uniq {u k : Nat} (h : 248 ≤ u) (h64 : u < 18446744073709551616) (hk : 1 ≤ k) (h1 : 256 ^ (k - 1) ≤ u) (h2 : u < 256 ^ k) : nb u = k := by
  obtain ⟨n1, n2, n3, n4⟩ := nb_spec h h64
  rcases Nat.lt_trichotomy (nb u) k with hlt | heq | hgt
  · have := Nat.pow_le_pow_right (n := 256) (by omega) (show nb u ≤ k - 1 by omega); omega
  · exact heq
  · have := Nat.pow_le_pow_right (n := 256) (by omega) (show k ≤ nb u - 1 by omega); omega
/-- Bytes that are taken are those that their number is put as. -/
theorem enc_take_big (d : UInt8) (rest : List UInt8) (k : Nat) (hd : d.toNat = 247 + k) (hk : 1 ≤ k) (hk8 : k ≤ 8) (h2 : k ≤ rest.length) (h3 : 248 ≤ valOf (rest.take k)) (h4 : rest.getD 0 0 ≠ 0) : enc (valOf (rest.take k)) = (d :: rest).take (1 + k) := by
  have hl : (rest.take k).length = k := by rw [List.length_take]; omega
  have hv2 := valOf_lt (rest.take k)
  rw [hl] at hv2
  have hv1 : 256 ^ (k - 1) ≤ valOf (rest.take k) := by
    obtain ⟨k', rfl⟩ : ∃ k', k = k' + 1 := ⟨k - 1, by omega⟩
    cases rest with
    | nil => simp at hl
    | cons f rest =>
      have hf : f ≠ 0 := h4
      have hf1 : 1 ≤ f.toNat := by
        rcases Nat.eq_zero_or_pos f.toNat with hh | hh
        · exact absurd (UInt8.toNat_inj.1 hh) hf
        · exact hh
      rw [List.take_succ_cons, valOf_cons]
      have hl' : (rest.take k').length = k' := by simpa using hl
      rw [hl', Nat.add_sub_cancel]
      have := Nat.mul_le_mul_right (256 ^ k') hf1
      omega
  have hp8 : 256 ^ k ≤ 256 ^ 8 := Nat.pow_le_pow_right (by omega) hk8
  have hlt : valOf (rest.take k) < 18446744073709551616 := Nat.lt_of_lt_of_le hv2 hp8
  have hn := nb_uniq h3 hlt hk hv1 hv2
  rw [enc_big h3, hn, be_val k _ hl, Nat.add_comm 1 k, List.take_succ_cons]
  congr 1
  refine UInt8.toNat_inj.1 ?_
  rw [ofNat_nat (by omega), hd]
theorem enc_take (bs : List UInt8) (h : (takeOf bs).2.2 = 0) : enc (takeOf bs).1 = bs.take (takeOf bs).2.1 := by
  revert h
  unfold takeOf
  split
  · simp
  · rename_i h0
    split
    · rename_i h1
      intro _
      show enc (bs.getD 0 0).toNat = bs.take 1
      rw [enc_small h1]
      cases bs with
      | nil => simp at h0
      | cons d rest =>
        show [UInt8.ofNat d.toNat] = [d]
        simp
    · rename_i h1
      split
      · simp
      · rename_i h2
        split
        · simp
        · rename_i h3
          intro _
          cases bs with
          | nil => simp at h0
          | cons d rest =>
            have h1' : ¬ d.toNat < 248 := h1
            have h2' : ¬ rest.length < d.toNat - 247 := h2
            have hx := d.toNat_lt
            have h3' : ¬ (valOf (rest.take (d.toNat - 247)) < 248 ∨ rest.getD 0 0 = 0) := by
              have e : (d :: rest).getD 1 0 = rest.getD 0 0 := by simp [List.getD]
              rw [← e]; exact h3
            exact enc_take_big d rest (d.toNat - 247) (by omega) (by omega) (by omega) (by omega) (by rcases Nat.lt_or_ge (valOf (rest.take (d.toNat - 247))) 248 with hh | hh; exact absurd (.inl hh) h3'; exact hh) (fun e => h3' (.inr e))
theorem take_more (bs : List UInt8) (h : (takeOf bs).2.2 = 0) (more : List UInt8) : takeOf (bs.take (takeOf bs).2.1 ++ more) = ((takeOf bs).1, (takeOf bs).2.1, 0) := by
  have e := enc_take bs h
  have hl : (enc (takeOf bs).1).length = (takeOf bs).2.1 := by
    rw [e, List.length_take]; have := take_le bs; omega
  rw [← e, take_enc (takeOf_lt bs), hl]
end Go.Proofs.Ytdondjodonmebaa
