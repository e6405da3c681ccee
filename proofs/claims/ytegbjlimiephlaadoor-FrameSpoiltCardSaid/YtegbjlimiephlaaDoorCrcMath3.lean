/- The plain algebra of the sum of 24 bits: bits that are turned. No program. -/
import Derived.Test.YtegbjlimiephlaaDoorCrcMath2
namespace Go.Proofs.YtegbjlimiephlaaDoor.Crc

def top : BitVec 24 := 0x800000#24
theorem Zn_pow (q : Nat) (hq : q ≤ 23) : Zn q (BitVec.ofNat 24 (2 ^ (23 - q))) = top := by
  have h : 2 ^ (23 - q) * 2 ^ q = 2 ^ 23 := by rw [← Nat.pow_add]; congr 1; omega
  rw [Zn_low q _ (by rw [h]; decide), h]; rfl
theorem more_turn : ∀ (l : List UInt8) (x y : BitVec 24), more (x ^^^ y) l = more x l ^^^ Zn (8 * l.length) y
  | [], x, y => by simp [more, Zn]
  | c :: l, x, y => by
    have h : byte (x ^^^ y) c = byte x c ^^^ Zn 8 y := by
      unfold byte
      rw [← Zn_xor]; congr 1; ac_rfl
    rw [more_cons, more_cons, h, more_turn l, ← Zn_add, List.length_cons, show 8 + 8 * l.length = 8 * (l.length + 1) from by omega]
/-- one bit turned, counted from the highest bit of the first byte -/
def mask (p : Nat) : UInt8 := UInt8.ofNat (2 ^ (7 - p % 8))
def flip (l : List UInt8) (p : Nat) : List UInt8 := l.set (p / 8) (l.getD (p / 8) 0 ^^^ mask p)
theorem flip_length (l : List UInt8) (p : Nat) : (flip l p).length = l.length := by simp [flip]
theorem byte_mask (x : BitVec 24) (c : UInt8) (p : Nat) : byte x (c ^^^ mask p) = byte x c ^^^ Zn (8 - p % 8) top := by
  have h := byte_xor x 0#24 c (mask p)
  rw [BitVec.xor_zero] at h
  rw [h]
  congr 1
  have hm : (mask p).toNat = 2 ^ (7 - p % 8) := by
    unfold mask
    rw [UInt8.toNat_ofNat']
    apply Nat.mod_eq_of_lt
    exact Nat.pow_lt_pow_right (by omega) (by omega)
  have e : (mask p).toNat * 65536 = 2 ^ (23 - p % 8) := by
    rw [hm, show (65536 : Nat) = 2 ^ 16 from rfl, ← Nat.pow_add]; congr 1; omega
  unfold byte
  rw [BitVec.zero_xor, e, ← Zn_pow (p % 8) (by omega), ← Zn_add, show p % 8 + (8 - p % 8) = 8 from by omega]
theorem flip_more (s : BitVec 24) (l : List UInt8) (p : Nat) (hp : p < 8 * l.length) : more s (flip l p) = more s l ^^^ Zn (8 * l.length - p) top := by
  have hi : p / 8 < l.length := by omega
  have hl : l = l.take (p / 8) ++ l.getD (p / 8) 0 :: l.drop (p / 8 + 1) := by
    rw [getD_eq hi]; simp
  have hf : flip l p = l.take (p / 8) ++ (l.getD (p / 8) 0 ^^^ mask p) :: l.drop (p / 8 + 1) := by
    unfold flip; rw [List.set_eq_take_append_cons_drop, if_pos hi]
  have hd : (l.drop (p / 8 + 1)).length = l.length - (p / 8 + 1) := by simp
  rw [hf]
  conv => rhs; lhs; rw [hl]
  rw [more_append, more_append, more_cons, more_cons, byte_mask, more_turn, ← Zn_add, hd]
  congr 2
  omega
/-- behind the first j bits of a pattern, from bit k on -/
def flipTo (l : List UInt8) (t k : Nat) : Nat → List UInt8
  | 0 => l
  | j + 1 => if t.testBit j then flip (flipTo l t k j) (k + j) else flipTo l t k j
theorem flipTo_length (l : List UInt8) (t k : Nat) : ∀ j, (flipTo l t k j).length = l.length
  | 0 => rfl
  | j + 1 => by simp only [flipTo]; split; rw [flip_length, flipTo_length l t k j]; exact flipTo_length l t k j
def rev (t : Nat) : Nat → BitVec 24
  | 0 => 0#24
  | j + 1 => rev t j ^^^ (if t.testBit j then BitVec.ofNat 24 (2 ^ (23 - j)) else 0#24)
theorem flipTo_more (s : BitVec 24) (l : List UInt8) (t k : Nat) (hk : k + 24 ≤ 8 * l.length) : ∀ j, j ≤ 24 → more s (flipTo l t k j) = more s l ^^^ Zn (8 * l.length - k) (rev t j)
  | 0, _ => by simp [flipTo, rev, Zn_zero]
  | j + 1, hj => by
    simp only [flipTo, rev]
    have ih := flipTo_more s l t k hk j (by omega)
    split
    · rw [flip_more s _ _ (by rw [flipTo_length]; omega), ih, flipTo_length, Zn_xor, BitVec.xor_assoc]
      congr 2
      rw [← Zn_pow j (by omega), ← Zn_add]
      congr 1
      omega
    · rw [ih, BitVec.xor_zero]
theorem rev_bit (t : Nat) (b : Nat) (hb : b < 24) : ∀ j, j ≤ 24 → (rev t j).getLsbD b = (decide (23 - b < j) && t.testBit (23 - b))
  | 0, _ => by simp [rev]
  | j + 1, hj => by
    simp only [rev]
    rw [BitVec.getLsbD_xor, rev_bit t b hb j (by omega)]
    have hp : (if t.testBit j then BitVec.ofNat 24 (2 ^ (23 - j)) else 0#24).getLsbD b = (decide (23 - j = b) && t.testBit j) := by
      split
      · rename_i h; rw [BitVec.getLsbD_ofNat, Nat.testBit_two_pow]; simp [h, hb]
      · rename_i h; simp [h]
    rw [hp]
    by_cases e : 23 - b = j
    · subst e
      rw [decide_eq_false (by omega), decide_eq_true (by omega), decide_eq_true (by omega)]; simp
    · by_cases h : 23 - b < j
      · rw [decide_eq_true h, decide_eq_false (by omega), decide_eq_true (by omega)]; simp
      · rw [decide_eq_false h, decide_eq_false (by omega), decide_eq_false (by omega)]; simp
theorem rev_zero (t : Nat) (ht : t < 16777216) (h : rev t 24 = 0#24) : t = 0 := by
  apply Nat.eq_of_testBit_eq
  intro i
  rw [Nat.zero_testBit]
  by_cases hi : i < 24
  · have := rev_bit t (23 - i) (by omega) 24 (Nat.le_refl _)
    rw [h, show 23 - (23 - i) = i from by omega, decide_eq_true (by omega)] at this
    simpa using this.symm
  · exact Nat.testBit_lt_two_pow (Nat.lt_of_lt_of_le ht (by rw [show 16777216 = 2 ^ 24 from rfl]; exact Nat.pow_le_pow_right (by omega) (by omega)))
/-- bytes that end in their sum have the sum 0 -/
theorem fits_zero (l : List UInt8) (h : fits l = true) : more start l = 0#24 := by
  unfold fits at h
  split at h
  · cases h
  · have h := beq_iff_eq.1 h
    have hl : l = l.take (l.length - 3) ++ put (sum (l.take (l.length - 3))).toNat := by rw [h]; simp
    have := sum_put (l.take (l.length - 3))
    rw [← hl] at this
    exact this
theorem burst (l : List UInt8) (t k : Nat) (ht : t < 16777216) (h0 : t ≠ 0) (hk : k + 24 ≤ 8 * l.length) (h : more start l = 0#24) : fits (flipTo l t k 24) = false := by
  cases hf : fits (flipTo l t k 24) with
  | false => rfl
  | true =>
    have := fits_zero _ hf
    rw [flipTo_more start l t k hk 24 (Nat.le_refl _), h, BitVec.zero_xor] at this
    exact absurd (rev_zero t ht (Zn_eq_zero this)) h0
end Go.Proofs.YtegbjlimiephlaaDoor.Crc
