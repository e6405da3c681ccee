/- The plain algebra of the sum of 24 bits: one step of the register with a nought is linear and one to one. No program. -/
import Derived.WalkKit
namespace Go.Proofs.YtegbjlimiephlaaDoor.Crc

/-- one step of the register with a nought -/
def Z (x : BitVec 24) : BitVec 24 := (x <<< 1) ^^^ (bif x.msb then 0x864CFB#24 else 0#24)
/-- so many steps with noughts -/
def Zn : Nat → BitVec 24 → BitVec 24
  | 0, x => x
  | k + 1, x => Zn k (Z x)

theorem xor_four (a b p q : BitVec 24) : (a ^^^ p) ^^^ (b ^^^ q) = (a ^^^ b) ^^^ (p ^^^ q) := by ac_rfl
theorem Z_xor (x y : BitVec 24) : Z (x ^^^ y) = Z x ^^^ Z y := by
  unfold Z
  rw [xor_four, BitVec.msb_xor, BitVec.shiftLeft_xor_distrib]
  congr 1
  cases x.msb <;> cases y.msb <;> rfl
theorem Zn_xor (k : Nat) : ∀ x y : BitVec 24, Zn k (x ^^^ y) = Zn k x ^^^ Zn k y := by
  induction k with
  | zero => intro x y; rfl
  | succ k ih => intro x y; simp only [Zn, Z_xor, ih]
theorem Zn_add (j : Nat) : ∀ (k : Nat) (x : BitVec 24), Zn (j + k) x = Zn k (Zn j x) := by
  induction j with
  | zero => intro k x; simp [Zn]
  | succ j ih => intro k x; rw [show j + 1 + k = (j + k) + 1 from by omega]; simp only [Zn, ih]
theorem Zn_zero (k : Nat) : Zn k 0#24 = 0#24 := by
  induction k with
  | zero => rfl
  | succ k ih => simp only [Zn]; rw [show Z 0#24 = 0#24 from by decide]; exact ih
theorem Z_eq_zero {x : BitVec 24} (h : Z x = 0#24) : x = 0#24 := by
  unfold Z at h
  cases hm : x.msb
  · rw [hm] at h
    simp only [cond_false, BitVec.xor_zero] at h
    apply BitVec.eq_of_getLsbD_eq
    intro i hi
    by_cases h23 : i = 23
    · subst h23
      rw [BitVec.msb_eq_getLsbD_last] at hm
      simpa using hm
    · have := congrArg (fun y : BitVec 24 => y.getLsbD (i + 1)) h
      simp at this
      simpa using this (by omega)
  · rw [hm] at h
    have := congrArg (fun y : BitVec 24 => y.getLsbD 0) h
    simp at this
theorem Zn_eq_zero {k : Nat} : ∀ {x : BitVec 24}, Zn k x = 0#24 → x = 0#24 := by
  induction k with
  | zero => intro x h; exact h
  | succ k ih => intro x h; exact Z_eq_zero (ih h)

/-- a byte: eight steps, the byte turned into the register's top -/
def byte (s : BitVec 24) (c : UInt8) : BitVec 24 := Zn 8 (s ^^^ BitVec.ofNat 24 (c.toNat * 65536))
def more (s : BitVec 24) (l : List UInt8) : BitVec 24 := l.foldl byte s
def start : BitVec 24 := 0xB704CE#24
def sum (l : List UInt8) : BitVec 24 := more start l
/-- a number's three lower bytes, the highest first -/
def put (n : Nat) : List UInt8 := [UInt8.ofNat (n / 65536), UInt8.ofNat (n / 256), UInt8.ofNat n]
theorem more_append (s : BitVec 24) (a b : List UInt8) : more s (a ++ b) = more (more s a) b := by simp [more, List.foldl_append]
theorem more_cons (s : BitVec 24) (c : UInt8) (l : List UInt8) : more s (c :: l) = more (byte s c) l := rfl
theorem more_snoc (s : BitVec 24) (c : UInt8) (l : List UInt8) : more s (l ++ [c]) = byte (more s l) c := by rw [more_append]; rfl

theorem ofNat_xor (a b : Nat) : BitVec.ofNat 24 (a ^^^ b) = BitVec.ofNat 24 a ^^^ BitVec.ofNat 24 b := by
  apply BitVec.eq_of_toNat_eq; simp
theorem shift16 (a b : Nat) : (a ^^^ b) * 65536 = (a * 65536) ^^^ (b * 65536) := by
  have := Nat.shiftLeft_xor_distrib (a := a) (b := b) (i := 16)
  simpa [Nat.shiftLeft_eq] using this
theorem byte_xor (s t : BitVec 24) (c d : UInt8) : byte (s ^^^ t) (c ^^^ d) = byte s c ^^^ byte t d := by
  unfold byte
  rw [UInt8.toNat_xor, shift16, ofNat_xor, ← Zn_xor, xor_four]
theorem more_xor : ∀ (l : List (UInt8 × UInt8)) (s t : BitVec 24), more (s ^^^ t) (l.map fun p => p.1 ^^^ p.2) = more s (l.map (·.1)) ^^^ more t (l.map (·.2))
  | [], s, t => rfl
  | p :: l, s, t => by simp only [List.map_cons, more_cons, byte_xor]; exact more_xor l _ _

/-! The table's four steps at once. -/
def turns : List Nat := [0, 8801531, 9098509, 825846, 9692897, 1419802, 1651692, 10452759, 10584377, 2608578, 2839604, 11344079, 3303384, 11807523, 12104405, 4128302]
theorem turns_eq : ∀ h : Fin 16, Zn 4 (BitVec.ofNat 24 (h.val * 1048576)) = BitVec.ofNat 24 (turns.getD h.val 0) := by decide
theorem turns_lt : ∀ h : Fin 16, turns.getD h.val 0 < 16777216 := by decide
theorem Z_low {x : BitVec 24} (h : x.toNat < 8388608) : Z x = BitVec.ofNat 24 (x.toNat * 2) := by
  have hm : x.msb = false := by rw [BitVec.msb_eq_decide]; simp; omega
  unfold Z
  rw [hm]
  apply BitVec.eq_of_toNat_eq
  simp [Nat.shiftLeft_eq]
theorem Zn_low (k : Nat) : ∀ (n : Nat), n * 2 ^ k < 16777216 → Zn k (BitVec.ofNat 24 n) = BitVec.ofNat 24 (n * 2 ^ k) := by
  induction k with
  | zero => intro n _; simp [Zn]
  | succ k ih =>
    intro n h
    have h1 : 1 ≤ 2 ^ k := Nat.one_le_two_pow
    have h2 : n * 2 ^ (k + 1) = n * 2 * 2 ^ k := by rw [Nat.pow_succ]; simp [Nat.mul_assoc, Nat.mul_comm]
    have h3 : n * 2 ≤ n * 2 * 2 ^ k := Nat.le_mul_of_pos_right _ h1
    have hn : (BitVec.ofNat 24 n).toNat = n := by simp; omega
    simp only [Zn]
    rw [Z_low (by rw [hn]; omega), hn, ih (n * 2) (by omega), h2]

/-- four steps of a register into whose top four bits are turned, as the table has them -/
def four (x : BitVec 24) (b : Nat) : BitVec 24 := Zn 4 (x ^^^ BitVec.ofNat 24 (b * 1048576))
theorem split_hi (n : Nat) : (n / 1048576 * 1048576) ^^^ (n % 1048576) = n := by
  have h := Nat.two_pow_add_eq_or_of_lt (i := 20) (b := n % 1048576) (by omega) (n / 1048576)
  have h2 := Nat.div_add_mod n 1048576
  apply Nat.eq_of_testBit_eq
  intro i
  rw [Nat.testBit_xor]
  by_cases hi : i < 20
  · rw [show n / 1048576 * 1048576 = n / 2 ^ 20 * 2 ^ 20 from rfl, Nat.testBit_mul_two_pow, show n % 1048576 = n % 2 ^ 20 from rfl, Nat.testBit_mod_two_pow]
    simp [hi, show ¬ 20 ≤ i from by omega]
  · rw [show n / 1048576 * 1048576 = n / 2 ^ 20 * 2 ^ 20 from rfl, Nat.testBit_mul_two_pow, show n % 1048576 = n % 2 ^ 20 from rfl, Nat.testBit_mod_two_pow, Nat.testBit_div_two_pow]
    simp [hi, show 20 ≤ i from by omega]
theorem Zn4_eq (y : Nat) (hy : y < 16777216) : (Zn 4 (BitVec.ofNat 24 y)).toNat = (y * 16 % 16777216) ^^^ turns.getD (y / 1048576) 0 := by
  have hh : y / 1048576 < 16 := by omega
  have e := turns_eq ⟨y / 1048576, hh⟩
  have l := turns_lt ⟨y / 1048576, hh⟩
  simp only at e l
  have : BitVec.ofNat 24 y = BitVec.ofNat 24 (y / 1048576 * 1048576) ^^^ BitVec.ofNat 24 (y % 1048576) := by rw [← ofNat_xor, split_hi]
  have e1 : (BitVec.ofNat 24 (turns.getD (y / 1048576) 0)).toNat = turns.getD (y / 1048576) 0 := by
    rw [BitVec.toNat_ofNat]; exact Nat.mod_eq_of_lt l
  have e2 : (BitVec.ofNat 24 (y % 1048576 * 2 ^ 4)).toNat = y * 16 % 16777216 := by
    rw [BitVec.toNat_ofNat, show (2 : Nat) ^ 24 = 16777216 from rfl, show (2 : Nat) ^ 4 = 16 from rfl]; omega
  rw [this, Zn_xor, e, Zn_low 4 _ (by omega), BitVec.toNat_xor, Nat.xor_comm, e1, e2]
theorem four_eq (x : BitVec 24) (b : Nat) (hb : b < 16) : (four x b).toNat = (x.toNat * 16 % 16777216) ^^^ turns.getD (x.toNat / 1048576 ^^^ b) 0 := by
  have hx := x.isLt
  have e : x ^^^ BitVec.ofNat 24 (b * 1048576) = BitVec.ofNat 24 (x.toNat ^^^ (b * 1048576)) := by rw [ofNat_xor]; simp
  have hd : (x.toNat ^^^ (b * 1048576)) / 1048576 = x.toNat / 1048576 ^^^ b := by
    apply Nat.eq_of_testBit_eq
    intro i
    rw [show (1048576 : Nat) = 2 ^ 20 from rfl, Nat.testBit_div_two_pow, Nat.testBit_xor, Nat.testBit_xor, Nat.testBit_div_two_pow, Nat.testBit_mul_two_pow]
    simp
  have hl : x.toNat ^^^ (b * 1048576) < 16777216 := by
    have := Nat.xor_lt_two_pow (n := 24) (x := x.toNat) (y := b * 1048576) (by omega) (by omega)
    simpa using this
  have hm : (x.toNat ^^^ (b * 1048576)) * 16 % 16777216 = x.toNat * 16 % 16777216 := by
    have h1 : (x.toNat ^^^ (b * 1048576)) % 1048576 = x.toNat % 1048576 := by
      rw [show (1048576 : Nat) = 2 ^ 20 from rfl, Nat.xor_mod_two_pow, Nat.mul_mod_left, Nat.xor_zero]
    omega
  unfold four
  rw [e, Zn4_eq _ hl, hd, hm]
set_option maxRecDepth 10000 in
theorem nib (c : Fin 256) : Zn 8 (BitVec.ofNat 24 (c.val * 65536)) = Zn 4 (Zn 4 (BitVec.ofNat 24 (c.val / 16 * 1048576)) ^^^ BitVec.ofNat 24 (c.val % 16 * 1048576)) := by
  revert c; decide +kernel
theorem byte_four (s : BitVec 24) (c : UInt8) : byte s c = four (four s (c.toNat / 16)) (c.toNat % 16) := by
  have h := nib ⟨c.toNat, c.toNat_lt⟩
  simp only at h
  unfold byte four
  rw [Zn_xor 8, h, Zn_xor 4 s, Zn_add 4 4 s, ← Zn_xor 4 (Zn 4 s)]
  congr 1
  ac_rfl

/-! The reference's step with a bit. -/
def stepB (x : BitVec 24) (b : Bool) : BitVec 24 := Z (x ^^^ (bif b then 0x800000#24 else 0#24))
theorem stepB_eq (x : BitVec 24) (b : Bool) : (stepB x b).toNat = if x.toNat / 8388608 % 2 = b.toNat then x.toNat * 2 % 16777216 else (x.toNat * 2 % 16777216) ^^^ 8801531 := by
  have hx := x.isLt
  have hz : ∀ y : BitVec 24, (Z y).toNat = if y.toNat < 8388608 then y.toNat * 2 % 16777216 else (y.toNat * 2 % 16777216) ^^^ 8801531 := by
    intro y
    have hy := y.isLt
    unfold Z
    rw [BitVec.msb_eq_decide]
    by_cases h : y.toNat < 8388608
    · rw [if_pos h, decide_eq_false (by omega)]; simp [Nat.shiftLeft_eq]
    · rw [if_neg h, decide_eq_true (by omega)]; simp [Nat.shiftLeft_eq]
  unfold stepB
  rw [hz]
  cases b
  · simp only [cond_false, BitVec.xor_zero, Bool.toNat_false]
    by_cases h : x.toNat < 8388608
    · rw [if_pos h, if_pos (by omega)]
    · rw [if_neg h, if_neg (by omega)]
  · simp only [cond_true, Bool.toNat_true]
    have e : (x ^^^ 0x800000#24).toNat = if x.toNat < 8388608 then x.toNat + 8388608 else x.toNat - 8388608 := by
      rw [BitVec.toNat_xor]
      have hs : x.toNat ^^^ 8388608 = ((x.toNat / 8388608 ^^^ 1) * 8388608) + x.toNat % 8388608 := by
        have h1 : (x.toNat ^^^ 8388608) / 8388608 = x.toNat / 8388608 ^^^ 1 := by
          rw [show (8388608 : Nat) = 2 ^ 23 from rfl, Nat.xor_div_two_pow]
        have h2 : (x.toNat ^^^ 8388608) % 8388608 = x.toNat % 8388608 := by
          rw [show (8388608 : Nat) = 2 ^ 23 from rfl, Nat.xor_mod_two_pow, Nat.mod_self, Nat.xor_zero]
        have := Nat.div_add_mod (x.toNat ^^^ 8388608) 8388608
        rw [h1, h2] at this
        omega
      rw [show (0x800000#24).toNat = 8388608 from rfl, hs]
      have h01 : x.toNat / 8388608 = 0 ∨ x.toNat / 8388608 = 1 := by omega
      rcases h01 with h | h
      · rw [h, if_pos (by omega), show (0 ^^^ 1 : Nat) = 1 from rfl]; omega
      · rw [h, if_neg (by omega), show (1 ^^^ 1 : Nat) = 0 from rfl]; omega
    rw [e]
    by_cases h : x.toNat < 8388608
    · rw [if_pos h, if_neg (by omega), if_neg (by omega), show (x.toNat + 8388608) * 2 % 16777216 = x.toNat * 2 % 16777216 from by omega]
    · rw [if_neg h, if_pos (by omega), if_pos (by omega), show (x.toNat - 8388608) * 2 % 16777216 = x.toNat * 2 % 16777216 from by omega]
/-- behind j bits of a byte, the highest first -/
def bitsTo (x : BitVec 24) (c : Nat) : Nat → BitVec 24
  | 0 => x
  | j + 1 => stepB (bitsTo x c j) (c.testBit (7 - j))
theorem stepB_xor (x : BitVec 24) (b : Bool) : stepB x b = Z x ^^^ stepB 0#24 b := by
  unfold stepB; rw [Z_xor, BitVec.zero_xor]
theorem Zn_succ' (j : Nat) (x : BitVec 24) : Zn (j + 1) x = Z (Zn j x) := by rw [Zn_add j 1]; rfl
theorem bitsTo_xor (x : BitVec 24) (c : Nat) : ∀ j, bitsTo x c j = Zn j x ^^^ bitsTo 0#24 c j
  | 0 => by simp [bitsTo, Zn]
  | j + 1 => by
    simp only [bitsTo]
    rw [stepB_xor, bitsTo_xor x c j, Z_xor, Zn_succ', stepB_xor (bitsTo 0#24 c j)]
    ac_rfl
theorem bits8 (c : Fin 256) : Zn 8 (BitVec.ofNat 24 (c.val * 65536)) = bitsTo 0#24 c.val 8 := by revert c; decide +kernel
theorem byte_bits (x : BitVec 24) (c : UInt8) : bitsTo x c.toNat 8 = byte x c := by
  have h := bits8 ⟨c.toNat, c.toNat_lt⟩
  simp only at h
  rw [bitsTo_xor, ← h]
  unfold byte
  rw [Zn_xor]
end Go.Proofs.YtegbjlimiephlaaDoor.Crc
