/- The plain algebra of the sum of 24 bits: what stands behind bytes; turned bits. No program. -/
import Derived.Test.YtegbjlimiephlaaDoorCrcFits2
namespace Go.Proofs.YtegbjlimiephlaaDoor.Crc

theorem put_length (n : Nat) : (put n).length = 3 := rfl
theorem put_inj (a b : Nat) : (put a == put b) = (a % 16777216 == b % 16777216) := by
  rw [Bool.eq_iff_iff, beq_iff_eq, beq_iff_eq]
  unfold put
  constructor
  · intro h
    simp only [List.cons.injEq, and_true] at h
    obtain ⟨h0, h1, h2⟩ := h
    have h0 := congrArg UInt8.toNat h0
    have h1 := congrArg UInt8.toNat h1
    have h2 := congrArg UInt8.toNat h2
    simp only [UInt8.toNat_ofNat'] at h0 h1 h2
    omega
  · intro h
    have h0 : UInt8.ofNat (a / 65536) = UInt8.ofNat (b / 65536) := by apply UInt8.toNat_inj.1; simp only [UInt8.toNat_ofNat']; omega
    have h1 : UInt8.ofNat (a / 256) = UInt8.ofNat (b / 256) := by apply UInt8.toNat_inj.1; simp only [UInt8.toNat_ofNat']; omega
    have h2 : UInt8.ofNat a = UInt8.ofNat b := by apply UInt8.toNat_inj.1; simp only [UInt8.toNat_ofNat']; omega
    rw [h0, h1, h2]
theorem fits_append (l p : List UInt8) (hp : p.length = 3) : fits (l ++ p) = (put (sum l).toNat == p) := by
  unfold fits
  have h1 : (l ++ p).length = l.length + 3 := by rw [List.length_append, hp]
  rw [if_neg (by omega), h1, show l.length + 3 - 3 = l.length from by omega, List.take_left, List.drop_left]
theorem fits_put (l : List UInt8) (n : Nat) : fits (l ++ put n) = (n % 16777216 == (sum l).toNat) := by
  rw [fits_append l _ rfl, put_inj, Nat.mod_eq_of_lt (sum l).isLt, Bool.eq_iff_iff, beq_iff_eq, beq_iff_eq]
  exact eq_comm
theorem fits_sum (l : List UInt8) : fits (l ++ put (sum l).toNat) = true := by
  rw [fits_put, Nat.mod_eq_of_lt (sum l).isLt]; simp
theorem three_at_once (s x y z : BitVec 24) : Zn 8 (Zn 8 (Zn 8 (s ^^^ x) ^^^ Zn 8 y) ^^^ Zn 8 (Zn 8 z)) = Zn 24 (s ^^^ (x ^^^ (y ^^^ z))) := by
  have e3 : ∀ v, Zn 24 v = Zn 8 (Zn 8 (Zn 8 v)) := fun v => (Zn_add 8 16 v).trans (Zn_add 8 8 (Zn 8 v))
  rw [e3, ← Zn_xor 8 (s ^^^ x) y, ← Zn_xor 8 (Zn 8 _) (Zn 8 z), ← Zn_xor 8 (s ^^^ x ^^^ y) z, BitVec.xor_assoc, BitVec.xor_assoc]
/-- three bytes: twenty-four steps, all three turned in at first -/
theorem more_three (s : BitVec 24) (p q r : UInt8) : more s [p, q, r] = Zn 24 (s ^^^ (BitVec.ofNat 24 (p.toNat * 65536) ^^^ (BitVec.ofNat 24 (q.toNat * 256) ^^^ BitVec.ofNat 24 r.toNat))) := by
  have hp := p.toNat_lt
  have hq := q.toNat_lt
  have hr := r.toNat_lt
  have e1 : BitVec.ofNat 24 (q.toNat * 65536) = Zn 8 (BitVec.ofNat 24 (q.toNat * 256)) := by
    rw [Zn_low 8 (q.toNat * 256) (by rw [show (2 : Nat) ^ 8 = 256 from rfl]; omega), Nat.mul_assoc]
  have e2 : BitVec.ofNat 24 (r.toNat * 65536) = Zn 8 (Zn 8 (BitVec.ofNat 24 r.toNat)) := by
    rw [Zn_low 8 r.toNat (by rw [show (2 : Nat) ^ 8 = 256 from rfl]; omega), Zn_low 8 (r.toNat * 2 ^ 8) (by rw [show (2 : Nat) ^ 8 = 256 from rfl]; omega), Nat.mul_assoc]
  show byte (byte (byte s p) q) r = _
  unfold byte
  rw [e1, e2]
  exact three_at_once s _ _ _
theorem put_split (n : Nat) (hn : n < 16777216) : BitVec.ofNat 24 ((UInt8.ofNat (n / 65536)).toNat * 65536) ^^^ (BitVec.ofNat 24 ((UInt8.ofNat (n / 256)).toNat * 256) ^^^ BitVec.ofNat 24 (UInt8.ofNat n).toNat) = BitVec.ofNat 24 n := by
  rw [← ofNat_xor, ← ofNat_xor]
  congr 1
  simp only [UInt8.toNat_ofNat']
  apply Nat.eq_of_testBit_eq
  intro i
  rw [Nat.testBit_xor, Nat.testBit_xor]
  rw [show (65536 : Nat) = 2 ^ 16 from rfl, show (256 : Nat) = 2 ^ 8 from rfl, Nat.testBit_mul_two_pow, Nat.testBit_mul_two_pow, Nat.testBit_mod_two_pow, Nat.testBit_mod_two_pow, Nat.testBit_mod_two_pow, Nat.testBit_div_two_pow, Nat.testBit_div_two_pow]
  by_cases h8 : i < 8
  · simp [h8, show ¬ 16 ≤ i from by omega, show ¬ 8 ≤ i from by omega]
  · by_cases h16 : i < 16
    · simp [h8, show ¬ 16 ≤ i from by omega, show 8 ≤ i from by omega, show i - 8 < 8 from by omega, show i - 8 + 8 = i from by omega]
    · by_cases h24 : i < 24
      · simp [h8, show 16 ≤ i from by omega, show 8 ≤ i from by omega, show ¬ i - 8 < 8 from by omega, show i - 16 < 8 from by omega, show i - 16 + 16 = i from by omega]
      · have : n.testBit i = false := Nat.testBit_lt_two_pow (Nat.lt_of_lt_of_le hn (by rw [show 16777216 = 2 ^ 24 from rfl]; exact Nat.pow_le_pow_right (by omega) (by omega)))
        simp [h8, show 16 ≤ i from by omega, show 8 ≤ i from by omega, show ¬ i - 8 < 8 from by omega, show ¬ i - 16 < 8 from by omega, this]
/-- behind a register's own three bytes there is nought, and behind no others -/
theorem more_put (s : BitVec 24) (n : Nat) (hn : n < 16777216) : more s (put n) = Zn 24 (s ^^^ BitVec.ofNat 24 n) := by
  unfold put; rw [more_three, put_split n hn]
theorem sum_put (l : List UInt8) : sum (l ++ put (sum l).toNat) = 0#24 := by
  unfold sum; rw [more_append, more_put _ _ (more start l).isLt]
  have : more start l ^^^ BitVec.ofNat 24 (more start l).toNat = 0#24 := by simp
  rw [this, Zn_zero]
end Go.Proofs.YtegbjlimiephlaaDoor.Crc
