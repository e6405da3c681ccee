/- CrcMath, CrcFns, CrcFits, CrcFits2. -/
import Derived.WalkKit
import Derived.Test.YtdmpopdacbdnlaaDoorRows
import Derived.Test.YtdmpopdacbdnlaaDoorKitG
import Derived.BigQuiet
import Derived.Deep.QuietTactic
import Derived.WalkLawsBesides
import Derived.WalkSpells
import Derived.Deep.RegionWith
import Derived.Deep.RegionHeld3
import Derived.Lib.Strings
/- The plain algebra of the sum of 24 bits: one step of the register with a nought is linear and one to one. No program. -/
namespace Go.Proofs.YtdmpopdacbdnlaaDoor.Crc

/-- one step of the register with a nought -/
def Z (x : BitVec 24) : BitVec 24 := (x <<< 1) ^^^ (bif x.msb then 0x864CFB#24 else 0#24)
/-- so many steps with noughts -/
def Zn : Nat → BitVec 24 → BitVec 24
  | 0, x => x
  | k + 1, x => Zn k (Z x)

theorem xor_four (a b p q : BitVec 24) : (a ^^^ p) ^^^ (b ^^^ q) = (a ^^^ b) ^^^ (p ^^^ q) := by ac_rfl
theorem Z_xor (x y : BitVec 24) : Z (x ^^^ y) = Z x ^^^ Z y := by
  unfold Z
  rw [xor_four, BitVec.msb_xor, BitVec.shiftLeft_xor_distrib]
  congr 1
  cases x.msb <;> cases y.msb <;> rfl
theorem Zn_xor (k : Nat) : ∀ x y : BitVec 24, Zn k (x ^^^ y) = Zn k x ^^^ Zn k y := by
  induction k with
  | zero => intro x y; rfl
  | succ k ih => intro x y; simp only [Zn, Z_xor, ih]
theorem Zn_add (j : Nat) : ∀ (k : Nat) (x : BitVec 24), Zn (j + k) x = Zn k (Zn j x) := by
  induction j with
  | zero => intro k x; simp [Zn]
  | succ j ih => intro k x; rw [show j + 1 + k = (j + k) + 1 from by omega]; simp only [Zn, ih]
theorem Zn_zero (k : Nat) : Zn k 0#24 = 0#24 := by
  induction k with
  | zero => rfl
  | succ k ih => simp only [Zn]; rw [show Z 0#24 = 0#24 from by decide]; exact ih
theorem Z_eq_zero {x : BitVec 24} (h : Z x = 0#24) : x = 0#24 := by
  unfold Z at h
  cases hm : x.msb
  · rw [hm] at h
    simp only [cond_false, BitVec.xor_zero] at h
    apply BitVec.eq_of_getLsbD_eq
    intro i hi
    by_cases h23 : i = 23
    · subst h23
      rw [BitVec.msb_eq_getLsbD_last] at hm
      simpa using hm
    · have := congrArg (fun y : BitVec 24 => y.getLsbD (i + 1)) h
      simp at this
      simpa using this (by omega)
  · rw [hm] at h
    have := congrArg (fun y : BitVec 24 => y.getLsbD 0) h
    simp at this
theorem Zn_eq_zero {k : Nat} : ∀ {x : BitVec 24}, Zn k x = 0#24 → x = 0#24 := by
  induction k with
  | zero => intro x h; exact h
  | succ k ih => intro x h; exact Z_eq_zero (ih h)

/-- a byte: eight steps, the byte turned into the register's top -/
def byte (s : BitVec 24) (c : UInt8) : BitVec 24 := Zn 8 (s ^^^ BitVec.ofNat 24 (c.toNat * 65536))
def more (s : BitVec 24) (l : List UInt8) : BitVec 24 := l.foldl byte s
def start : BitVec 24 := 0xB704CE#24
def sum (l : List UInt8) : BitVec 24 := more start l
/-- a number's three lower bytes, the highest first -/
def put (n : Nat) : List UInt8 := [UInt8.ofNat (n / 65536), UInt8.ofNat (n / 256), UInt8.ofNat n]
theorem more_append (s : BitVec 24) (a b : List UInt8) : more s (a ++ b) = more (more s a) b := by simp [more, List.foldl_append]
theorem more_cons (s : BitVec 24) (c : UInt8) (l : List UInt8) : more s (c :: l) = more (byte s c) l := rfl
theorem more_snoc (s : BitVec 24) (c : UInt8) (l : List UInt8) : more s (l ++ [c]) = byte (more s l) c := by rw [more_append]; rfl

theorem ofNat_xor (a b : Nat) : BitVec.ofNat 24 (a ^^^ b) = BitVec.ofNat 24 a ^^^ BitVec.ofNat 24 b := by
  apply BitVec.eq_of_toNat_eq; simp
theorem shift16 (a b : Nat) : (a ^^^ b) * 65536 = (a * 65536) ^^^ (b * 65536) := by
  have := Nat.shiftLeft_xor_distrib (a := a) (b := b) (i := 16)
  simpa [Nat.shiftLeft_eq] using this
theorem byte_xor (s t : BitVec 24) (c d : UInt8) : byte (s ^^^ t) (c ^^^ d) = byte s c ^^^ byte t d := by
  unfold byte
  rw [UInt8.toNat_xor, shift16, ofNat_xor, ← Zn_xor, xor_four]
theorem more_xor : ∀ (l : List (UInt8 × UInt8)) (s t : BitVec 24), more (s ^^^ t) (l.map fun p => p.1 ^^^ p.2) = more s (l.map (·.1)) ^^^ more t (l.map (·.2))
  | [], s, t => rfl
  | p :: l, s, t => by simp only [List.map_cons, more_cons, byte_xor]; exact more_xor l _ _

/-! The table's four steps at once. -/
def turns : List Nat := [0, 8801531, 9098509, 825846, 9692897, 1419802, 1651692, 10452759, 10584377, 2608578, 2839604, 11344079, 3303384, 11807523, 12104405, 4128302]
theorem turns_eq : ∀ h : Fin 16, Zn 4 (BitVec.ofNat 24 (h.val * 1048576)) = BitVec.ofNat 24 (turns.getD h.val 0) := by decide
theorem turns_lt : ∀ h : Fin 16, turns.getD h.val 0 < 16777216 := by decide
theorem Z_low {x : BitVec 24} (h : x.toNat < 8388608) : Z x = BitVec.ofNat 24 (x.toNat * 2) := by
  have hm : x.msb = false := by rw [BitVec.msb_eq_decide]; simp; omega
  unfold Z
  rw [hm]
  apply BitVec.eq_of_toNat_eq
  simp [Nat.shiftLeft_eq]
theorem Zn_low (k : Nat) : ∀ (n : Nat), n * 2 ^ k < 16777216 → Zn k (BitVec.ofNat 24 n) = BitVec.ofNat 24 (n * 2 ^ k) := by
  induction k with
  | zero => intro n _; simp [Zn]
  | succ k ih =>
    intro n h
    have h1 : 1 ≤ 2 ^ k := Nat.one_le_two_pow
    have h2 : n * 2 ^ (k + 1) = n * 2 * 2 ^ k := by rw [Nat.pow_succ]; simp [Nat.mul_assoc, Nat.mul_comm]
    have h3 : n * 2 ≤ n * 2 * 2 ^ k := Nat.le_mul_of_pos_right _ h1
    have hn : (BitVec.ofNat 24 n).toNat = n := by simp; omega
    simp only [Zn]
    rw [Z_low (by rw [hn]; omega), hn, ih (n * 2) (by omega), h2]

/-- four steps of a register into whose top four bits are turned, as the table has them -/
def four (x : BitVec 24) (b : Nat) : BitVec 24 := Zn 4 (x ^^^ BitVec.ofNat 24 (b * 1048576))
theorem split_hi (n : Nat) : (n / 1048576 * 1048576) ^^^ (n % 1048576) = n := by
  have h := Nat.two_pow_add_eq_or_of_lt (i := 20) (b := n % 1048576) (by omega) (n / 1048576)
  have h2 := Nat.div_add_mod n 1048576
  apply Nat.eq_of_testBit_eq
  intro i
  rw [Nat.testBit_xor]
  by_cases hi : i < 20
  · rw [show n / 1048576 * 1048576 = n / 2 ^ 20 * 2 ^ 20 from rfl, Nat.testBit_mul_two_pow, show n % 1048576 = n % 2 ^ 20 from rfl, Nat.testBit_mod_two_pow]
    simp [hi, show ¬ 20 ≤ i from by omega]
  · rw [show n / 1048576 * 1048576 = n / 2 ^ 20 * 2 ^ 20 from rfl, Nat.testBit_mul_two_pow, show n % 1048576 = n % 2 ^ 20 from rfl, Nat.testBit_mod_two_pow, Nat.testBit_div_two_pow]
    simp [hi, show 20 ≤ i from by omega]
theorem Zn4_eq (y : Nat) (hy : y < 16777216) : (Zn 4 (BitVec.ofNat 24 y)).toNat = (y * 16 % 16777216) ^^^ turns.getD (y / 1048576) 0 := by
  have hh : y / 1048576 < 16 := by omega
  have e := turns_eq ⟨y / 1048576, hh⟩
  have l := turns_lt ⟨y / 1048576, hh⟩
  simp only at e l
  have : BitVec.ofNat 24 y = BitVec.ofNat 24 (y / 1048576 * 1048576) ^^^ BitVec.ofNat 24 (y % 1048576) := by rw [← ofNat_xor, split_hi]
  have e1 : (BitVec.ofNat 24 (turns.getD (y / 1048576) 0)).toNat = turns.getD (y / 1048576) 0 := by
    rw [BitVec.toNat_ofNat]; exact Nat.mod_eq_of_lt l
  have e2 : (BitVec.ofNat 24 (y % 1048576 * 2 ^ 4)).toNat = y * 16 % 16777216 := by
    rw [BitVec.toNat_ofNat, show (2 : Nat) ^ 24 = 16777216 from rfl, show (2 : Nat) ^ 4 = 16 from rfl]; omega
  rw [this, Zn_xor, e, Zn_low 4 _ (by omega), BitVec.toNat_xor, Nat.xor_comm, e1, e2]
theorem four_eq (x : BitVec 24) (b : Nat) (hb : b < 16) : (four x b).toNat = (x.toNat * 16 % 16777216) ^^^ turns.getD (x.toNat / 1048576 ^^^ b) 0 := by
  have hx := x.isLt
  have e : x ^^^ BitVec.ofNat 24 (b * 1048576) = BitVec.ofNat 24 (x.toNat ^^^ (b * 1048576)) := by rw [ofNat_xor]; simp
  have hd : (x.toNat ^^^ (b * 1048576)) / 1048576 = x.toNat / 1048576 ^^^ b := by
    apply Nat.eq_of_testBit_eq
    intro i
    rw [show (1048576 : Nat) = 2 ^ 20 from rfl, Nat.testBit_div_two_pow, Nat.testBit_xor, Nat.testBit_xor, Nat.testBit_div_two_pow, Nat.testBit_mul_two_pow]
    simp
  have hl : x.toNat ^^^ (b * 1048576) < 16777216 := by
    have := Nat.xor_lt_two_pow (n := 24) (x := x.toNat) (y := b * 1048576) (by omega) (by omega)
    simpa using this
  have hm : (x.toNat ^^^ (b * 1048576)) * 16 % 16777216 = x.toNat * 16 % 16777216 := by
    have h1 : (x.toNat ^^^ (b * 1048576)) % 1048576 = x.toNat % 1048576 := by
      rw [show (1048576 : Nat) = 2 ^ 20 from rfl, Nat.xor_mod_two_pow, Nat.mul_mod_left, Nat.xor_zero]
    omega
  unfold four
  rw [e, Zn4_eq _ hl, hd, hm]
set_option maxRecDepth 10000 in
theorem nib (c : Fin 256) : Zn 8 (BitVec.ofNat 24 (c.val * 65536)) = Zn 4 (Zn 4 (BitVec.ofNat 24 (c.val / 16 * 1048576)) ^^^ BitVec.ofNat 24 (c.val % 16 * 1048576)) := by
  revert c; decide +kernel
theorem byte_four (s : BitVec 24) (c : UInt8) : byte s c = four (four s (c.toNat / 16)) (c.toNat % 16) := by
  have h := nib ⟨c.toNat, c.toNat_lt⟩
  simp only at h
  unfold byte four
  rw [Zn_xor 8, h, Zn_xor 4 s, Zn_add 4 4 s, ← Zn_xor 4 (Zn 4 s)]
  congr 1
  ac_rfl

/-! The reference's step with a bit. -/
def stepB (x : BitVec 24) (b : Bool) : BitVec 24 := Z (x ^^^ (bif b then 0x800000#24 else 0#24))
theorem stepB_eq (x : BitVec 24) (b : Bool) : (stepB x b).toNat = if x.toNat / 8388608 % 2 = b.toNat then x.toNat * 2 % 16777216 else (x.toNat * 2 % 16777216) ^^^ 8801531 := by
  have hx := x.isLt
  have hz : ∀ y : BitVec 24, (Z y).toNat = if y.toNat < 8388608 then y.toNat * 2 % 16777216 else (y.toNat * 2 % 16777216) ^^^ 8801531 := by
    intro y
    have hy := y.isLt
    unfold Z
    rw [BitVec.msb_eq_decide]
    by_cases h : y.toNat < 8388608
    · rw [if_pos h, decide_eq_false (by omega)]; simp [Nat.shiftLeft_eq]
    · rw [if_neg h, decide_eq_true (by omega)]; simp [Nat.shiftLeft_eq]
  unfold stepB
  rw [hz]
  cases b
  · simp only [cond_false, BitVec.xor_zero, Bool.toNat_false]
    by_cases h : x.toNat < 8388608
    · rw [if_pos h, if_pos (by omega)]
    · rw [if_neg h, if_neg (by omega)]
  · simp only [cond_true, Bool.toNat_true]
    have e : (x ^^^ 0x800000#24).toNat = if x.toNat < 8388608 then x.toNat + 8388608 else x.toNat - 8388608 := by
      rw [BitVec.toNat_xor]
      have hs : x.toNat ^^^ 8388608 = ((x.toNat / 8388608 ^^^ 1) * 8388608) + x.toNat % 8388608 := by
        have h1 : (x.toNat ^^^ 8388608) / 8388608 = x.toNat / 8388608 ^^^ 1 := by
          rw [show (8388608 : Nat) = 2 ^ 23 from rfl, Nat.xor_div_two_pow]
        have h2 : (x.toNat ^^^ 8388608) % 8388608 = x.toNat % 8388608 := by
          rw [show (8388608 : Nat) = 2 ^ 23 from rfl, Nat.xor_mod_two_pow, Nat.mod_self, Nat.xor_zero]
        have := Nat.div_add_mod (x.toNat ^^^ 8388608) 8388608
        rw [h1, h2] at this
        omega
      rw [show (0x800000#24).toNat = 8388608 from rfl, hs]
      have h01 : x.toNat / 8388608 = 0 ∨ x.toNat / 8388608 = 1 := by omega
      rcases h01 with h | h
      · rw [h, if_pos (by omega), show (0 ^^^ 1 : Nat) = 1 from rfl]; omega
      · rw [h, if_neg (by omega), show (1 ^^^ 1 : Nat) = 0 from rfl]; omega
    rw [e]
    by_cases h : x.toNat < 8388608
    · rw [if_pos h, if_neg (by omega), if_neg (by omega), show (x.toNat + 8388608) * 2 % 16777216 = x.toNat * 2 % 16777216 from by omega]
    · rw [if_neg h, if_pos (by omega), if_pos (by omega), show (x.toNat - 8388608) * 2 % 16777216 = x.toNat * 2 % 16777216 from by omega]
/-- behind j bits of a byte, the highest first -/
def bitsTo (x : BitVec 24) (c : Nat) : Nat → BitVec 24
  | 0 => x
  | j + 1 => stepB (bitsTo x c j) (c.testBit (7 - j))
theorem stepB_xor (x : BitVec 24) (b : Bool) : stepB x b = Z x ^^^ stepB 0#24 b := by
  unfold stepB; rw [Z_xor, BitVec.zero_xor]
theorem Zn_succ' (j : Nat) (x : BitVec 24) : Zn (j + 1) x = Z (Zn j x) := by rw [Zn_add j 1]; rfl
theorem bitsTo_xor (x : BitVec 24) (c : Nat) : ∀ j, bitsTo x c j = Zn j x ^^^ bitsTo 0#24 c j
  | 0 => by simp [bitsTo, Zn]
  | j + 1 => by
    simp only [bitsTo]
    rw [stepB_xor, bitsTo_xor x c j, Z_xor, Zn_succ', stepB_xor (bitsTo 0#24 c j)]
    ac_rfl
theorem bits8 (c : Fin 256) : Zn 8 (BitVec.ofNat 24 (c.val * 65536)) = bitsTo 0#24 c.val 8 := by revert c; decide +kernel
theorem byte_bits (x : BitVec 24) (c : UInt8) : bitsTo x c.toNat 8 = byte x c := by
  have h := bits8 ⟨c.toNat, c.toNat_lt⟩
  simp only at h
  rw [bitsTo_xor, ← h]
  unfold byte
  rw [Zn_xor]
end Go.Proofs.YtdmpopdacbdnlaaDoor.Crc
/- The contracts of package crc and of its reference. -/
namespace Go.Proofs.YtdmpopdacbdnlaaDoor
open Go.RowKit
set_option linter.unusedVariables false
set_option linter.unusedSimpArgs false

/-- The table's cells. -/
structure Tab (w : World) : Prop where
  lt : 2 < w.heap.size
  cell : ∀ i, i < 16 → w.cell? ⟨2, i, none⟩ = some (.int .u32 ((Crc.turns.getD i 0 : Nat) : Int))
theorem Tab.below {w w' : World} (h : Tab w) (hb : Below w.heap.size w w') : Tab w' :=
  ⟨Nat.lt_of_lt_of_le h.lt hb.size, fun i hi => by rw [(bcell hb).1 _ _ h.lt]; exact h.cell i hi⟩

theorem bits_at {o : BinOp} {k : IntKind} {a b r : Int} {c d : Int} (h : bits o k a b = r) (hc : c = a) (hd : d = b) : bits o k c d = r := by rw [hc, hd]; exact h

theorem crc_four (x : BitVec 24) (b : Nat) (hb : b < 16) (w : World) (hT : Tab w) :
    Calls Tryd.prog 133 #[.int .u32 (x.toNat : Int), .int .u8 (b : Int)] w fun e w' => e = .returned (.int .u32 ((Crc.four x b).toNat : Int)) ∧ w = w' := by
  have hx : x.toNat < 16777216 := x.isLt
  have hf := Crc.four_eq x b hb
  have ht := Crc.turns_lt
  generalize x.toNat = X at *
  generalize (Crc.four x b).toNat = R at *
  clear x
  have e1 : bits .and .u32 ((X : Int) * 16) 16777215 = ((X * 16 % 16777216 : Nat) : Int) := by
    have := u32_and_nat (X * 16) 16777215 (by omega) (by omega)
    rw [show (X * 16) &&& 16777215 = X * 16 % 16777216 from Nat.and_two_pow_sub_one_eq_mod (X * 16) 24] at this
    exact bits_at this (by omega) (by omega)
  have e2 : bits .xor .u32 ((X : Int) / 1048576) (b : Int) = ((X / 1048576 ^^^ b : Nat) : Int) := by
    have := u32_xor_nat (X / 1048576) b (by omega) (by omega)
    exact bits_at this (by omega) (by omega)
  have hj : X / 1048576 ^^^ b < 16 := by
    have := Nat.xor_lt_two_pow (n := 4) (x := X / 1048576) (y := b) (by omega) (by omega)
    simpa using this
  generalize X / 1048576 ^^^ b = j at *
  have hc := hT.cell j hj
  have hlt := ht ⟨j, hj⟩
  simp only at hlt
  generalize Crc.turns.getD j 0 = t at *
  have e3 : bits .xor .u32 ((X * 16 % 16777216 : Nat) : Int) (t : Int) = (R : Int) := by
    rw [hf]; exact u32_xor_nat _ _ (by omega) (by omega)
  generalize X * 16 % 16777216 = m at *
  clear hf ht hlt hT
  have hj' : (j : Int) < 16 := by omega
  clear hj
  go_enter Tryd.func133, Tryd.ntmps133
  go_wp2_with fail
  go_ret
  exact ⟨rfl, rfl⟩

theorem ref_step (x : BitVec 24) (b : Bool) (w : World) :
    Calls Tryd.prog 138 #[.int .u32 (x.toNat : Int), .int .u32 (b.toNat : Int)] w fun e w' => e = .returned (.int .u32 ((Crc.stepB x b).toNat : Int)) ∧ w = w' := by
  have hx : x.toNat < 16777216 := x.isLt
  have hf := Crc.stepB_eq x b
  have hb : b.toNat ≤ 1 := Bool.toNat_le b
  generalize x.toNat = X at *
  generalize (Crc.stepB x b).toNat = R at *
  generalize b.toNat = c at *
  clear x b
  by_cases h : X / 8388608 % 2 = c
  · rw [if_pos h] at hf
    have e1 : ((X : Int) / 8388608 % 2 != (c : Int)) = false := by simp; omega
    have e2 : (X : Int) * 2 % 16777216 = (R : Int) := by omega
    clear h hf
    go_enter Tryd.func138, Tryd.ntmps138
    go_wp2_with fail
    go_ret
    exact ⟨ret_int (by omega), rfl⟩
  · rw [if_neg h] at hf
    have e1 : ((X : Int) / 8388608 % 2 != (c : Int)) = true := by simp; omega
    have e2 : bits .xor .u32 ((X : Int) * 2 % 16777216) 8801531 = (R : Int) := by
      rw [hf]; exact bits_at (u32_xor_nat (X * 2 % 16777216) 8801531 (by omega) (by omega)) (by omega) (by omega)
    clear h hf
    go_enter Tryd.func138, Tryd.ntmps138
    go_wp2_with fail
    go_ret
    exact ⟨rfl, rfl⟩

theorem crc_fourI (x : BitVec 24) (b : Int) (w : World) (hT : Tab w) (hb : 0 ≤ b) (hb' : b < 16) :
    Calls Tryd.prog 133 #[.int .u32 (x.toNat : Int), .int .u8 b] w fun e w' => e = .returned (.int .u32 ((Crc.four x b.toNat).toNat : Int)) ∧ w = w' := by
  obtain ⟨n, rfl⟩ := Int.eq_ofNat_of_zero_le hb
  exact crc_four x n (by omega) w hT
theorem ref_stepI (x : BitVec 24) (b : Int) (w : World) (hb : 0 ≤ b) (hb' : b < 2) :
    Calls Tryd.prog 138 #[.int .u32 (x.toNat : Int), .int .u32 b] w fun e w' => e = .returned (.int .u32 ((Crc.stepB x (decide (b = 1))).toNat : Int)) ∧ w = w' := by
  have h01 : b = 0 ∨ b = 1 := by omega
  rcases h01 with rfl | rfl
  · exact ref_step x false w
  · exact ref_step x true w

def st (N : Nat) : BitVec 24 := BitVec.ofNat 24 N
theorem crc_more (N : Nat) (hN : N < 4294967296) (a : Option Addr) (len cap : Nat) (bs : List UInt8) (w : World) (hT : Tab w) (h : RowB w a len cap bs) :
    Calls Tryd.prog 124 #[.int .u32 (N : Int), .slice a len cap] w fun e w' => e = .returned (.int .u32 ((Crc.more (st N) bs).toNat : Int)) ∧ w = w' := by
  have hm : len ≤ 9223372036854775807 := by have := h.small; unfold maxLen at this; omega
  have hl := h.length
  have e1 : bits .and .u32 (N : Int) 16777215 = ((st N).toNat : Int) := by
    have := u32_and_nat N 16777215 (by omega) (by omega)
    rw [show N &&& 16777215 = N % 16777216 from Nat.and_two_pow_sub_one_eq_mod N 24] at this
    have e2 : (st N).toNat = N % 16777216 := by simp [st]
    rw [e2]; exact bits_at this rfl rfl
  generalize st N = s0 at *
  go_enter Tryd.func124, Tryd.ntmps124
  go_wp2_with fail
  go_loop [0, 11] (fun s i => ∃ k : Nat, k ≤ len ∧ i = .int .i64 k ∧ s = .int .u32 ((Crc.more s0 (bs.take k)).toNat : Int)) (fun _ i => len - (intOf i).toNat)
  case atStart => exact ⟨0, Nat.zero_le _, rfl, rfl⟩
  case round =>
    obtain ⟨k, hk, rfl, rfl⟩ := hrel
    clear e1
    by_cases hlt : k < len
    · rcases h.at_ with h0 | ⟨b, off, rfl, hl', hc⟩
      · omega
      have hck := hc k hlt
      have hts := take_succ' (l := bs) (i := k) (by omega)
      clear hc
      generalize hcc : bs.getD k 0 = c at *
      have hc8 := c.toNat_lt
      have H1 : Hid (Crc.more s0 (bs.take (k + 1)) = Crc.byte (Crc.more s0 (bs.take k)) c) := by rw [hts, Crc.more_snoc]; exact Lib.hid rfl
      clear hts hcc
      generalize Crc.more s0 (bs.take k) = x at *
      have H2 := Lib.hid (Crc.byte_four x c)
      go_wp2_with fail
      refine (crc_fourI _ _ _ hT (by omega) (by omega)).mono ?_; rintro e w' ⟨rfl, rfl⟩
      go_wp2_with fail
      refine (crc_fourI _ _ _ hT (by omega) (by omega)).mono ?_; rintro e w' ⟨rfl, rfl⟩
      go_wp2_with fail
      go_round
      case rel => exact ⟨k + 1, by omega, by go_num, by rw [H1.out, H2.out]; rfl⟩
      case measure => simp [intOf]; omega
    · obtain rfl : k = len := by omega
      go_wp2_with fail
      go_ret
      exact ⟨by rw [List.take_of_length_le (by omega)]; rfl, rfl⟩

theorem str_getD (t : ByteArray) (k : Nat) (h : k < t.size) : t.data.toList.getD k 0 = t[k] := by
  have h' : k < t.data.toList.length := by simpa using h
  rw [getD_eq h']; rfl
theorem ref_more (N : Nat) (hN : N < 4294967296) (t : ByteArray) (w : World) (ht : t.size ≤ maxLen) :
    Calls Tryd.prog 132 #[.int .u32 (N : Int), .string t] w fun e w' => e = .returned (.int .u32 ((Crc.more (st N) t.data.toList).toNat : Int)) ∧ w = w' := by
  have hm : t.size ≤ 9223372036854775807 := by unfold maxLen at ht; omega
  have hl : t.data.toList.length = t.size := by simp
  have e1 : (N : Int) % 16777216 = ((st N).toNat : Int) := by
    have e2 : (st N).toNat = N % 16777216 := by simp [st]
    omega
  have H0 := Lib.hid hl; clear hl
  generalize st N = s0 at *
  go_enter Tryd.func132, Tryd.ntmps132
  go_wp2_with fail
  go_loop [5, 6] (fun s i => ∃ k : Nat, k ≤ t.size ∧ i = .int .i64 k ∧ s = .int .u32 ((Crc.more s0 (t.data.toList.take k)).toNat : Int)) (fun _ i => t.size - (intOf i).toNat)
  case atStart => exact ⟨0, Nat.zero_le _, rfl, by rw [e1]; rfl⟩
  case round =>
    obtain ⟨k, hk, rfl, rfl⟩ := hrel
    clear e1
    by_cases hlt : k < t.size
    · have hts := take_succ' (l := t.data.toList) (i := k) (by rw [H0.out]; exact hlt)
      rw [str_getD t k hlt] at hts
      have H1 : Hid (Crc.more s0 (t.data.toList.take (k + 1)) = Crc.byte (Crc.more s0 (t.data.toList.take k)) t[k]) := by rw [hts, Crc.more_snoc]; exact Lib.hid rfl
      clear hts
      generalize Crc.more s0 (t.data.toList.take k) = x at *
      have H2 := Lib.hid (Crc.byte_bits x t[k])
      go_wp2_with fail
      go_loop [5, 7] (fun s i => ∃ j : Nat, j ≤ 8 ∧ i = .int .i64 (7 - (j : Int)) ∧ s = .int .u32 ((Crc.bitsTo x t[k].toNat j).toNat : Int)) (fun _ i => (intOf i + 1).toNat)
      case atStart => exact ⟨0, by omega, by simp, rfl⟩
      case round =>
        obtain ⟨j, hj, rfl, rfl⟩ := hrel
        have hc8 := t[k].toNat_lt
        by_cases hj8 : j < 8
        · have H3 : Hid (Crc.bitsTo x t[k].toNat (j + 1) = Crc.stepB (Crc.bitsTo x t[k].toNat j) (t[k].toNat.testBit (7 - j))) := Lib.hid rfl
          have H4 : Hid (t[k].toNat.testBit (7 - j) = decide (((t[k].toNat : Int) / 2 ^ (7 - j)) % 2 = 1)) := by
            rw [Nat.testBit_eq_decide_div_mod_eq]; apply Lib.hid; congr 1
            have : (((t[k].toNat / 2 ^ (7 - j) : Nat) : Int)) = (t[k].toNat : Int) / 2 ^ (7 - j) := by simp
            rw [← this]; simp; omega
          have hq : (0 : Int) ≤ (t[k].toNat : Int) / 2 ^ (7 - j) := Int.ediv_nonneg (by omega) (by exact_mod_cast Nat.zero_le (2 ^ (7 - j)))
          generalize Crc.bitsTo x t[k].toNat j = y at *
          go_wp2_with fail
          refine (ref_stepI _ _ _ (by omega) (by omega)).mono ?_; rintro e w' ⟨rfl, rfl⟩
          go_wp2_with fail
          go_round
          case rel => exact ⟨j + 1, by omega, by go_num, by rw [H3.out, H4.out]⟩
          case measure => simp [intOf]; omega
        · obtain rfl : j = 8 := by omega
          go_wp2_with fail
          go_round
          case rel => exact ⟨k + 1, by omega, by go_num, by rw [H1.out, H2.out]⟩
          case measure => simp [intOf]; omega
    · obtain rfl : k = t.size := by omega
      go_wp2_with fail
      go_ret
      exact ⟨by rw [List.take_of_length_le (by rw [H0.out]; omega)]; rfl, rfl⟩

theorem crc_sum (a : Option Addr) (len cap : Nat) (bs : List UInt8) (w : World) (hT : Tab w) (h : RowB w a len cap bs) :
    Calls Tryd.prog 105 #[.slice a len cap] w fun e w' => e = .returned (.int .u32 ((Crc.sum bs).toNat : Int)) ∧ w = w' := by
  have H := crc_more 11994318 (by omega) a len cap bs w hT h
  have H1 := Lib.hid H; clear H
  go_enter Tryd.func105, Tryd.ntmps105
  go_wp2_with fail
  refine (H1.out).mono ?_; rintro e w' ⟨rfl, rfl⟩
  go_wp2_with fail
  go_ret
  exact ⟨rfl, rfl⟩
theorem ref_sum03 (t : ByteArray) (w : World) (ht : t.size ≤ maxLen) :
    Calls Tryd.prog 115 #[.string t] w fun e w' => e = .returned (.int .u32 ((Crc.sum t.data.toList).toNat : Int)) ∧ w = w' := by
  have H1 := Lib.hid (ref_more 11994318 (by omega) t w ht)
  go_enter Tryd.func115, Tryd.ntmps115
  go_wp2_with fail
  refine (H1.out).mono ?_; rintro e w' ⟨rfl, rfl⟩
  go_wp2_with fail
  go_ret
  exact ⟨rfl, rfl⟩
theorem put_mod (N : Nat) : Crc.put N = [UInt8.ofNat (N / 65536 % 256), UInt8.ofNat (N / 256 % 256), UInt8.ofNat (N % 256)] := by
  have h : ∀ n : Nat, UInt8.ofNat (n % 256) = UInt8.ofNat n := fun n => by apply UInt8.toNat_inj.1; simp
  unfold Crc.put; rw [h, h, h]
theorem crc_put (N : Nat) (hN : N < 4294967296) (w : World) :
    Calls Tryd.prog 104 #[.int .u32 (N : Int)] w fun e w' => e = .returned (.slice (some ⟨w.heap.size, 0, none⟩) 3 3) ∧ RowB w' (some ⟨w.heap.size, 0, none⟩) 3 3 (Crc.put N) ∧ Below w.heap.size w w' ∧ w.heap.size < w'.heap.size := by
  go_enter Tryd.func104, Tryd.ntmps104
  go_wp2_with fail
  go_ret
  exact ⟨rfl, by rw [put_mod]; exact RowB.three w _ _ _ _ (by omega) (by omega) (by omega) (by omega) (by omega) (by omega), (by repeat (first | with_reducible exact Below.refl _ _ | with_reducible refine Below.drew ?_ | with_reducible refine Below.alloc ?_ (by (try simp) <;> omega) _ | with_reducible refine Below.setCell ?_ (by (try simp) <;> omega) _)), by simp⟩
theorem ref_put (N : Nat) (hN : N < 4294967296) (w : World) :
    Calls Tryd.prog 114 #[.int .u32 (N : Int)] w fun e w' => e = .returned (.string ⟨(Crc.put N).toArray⟩) ∧ Below w.heap.size w w' := by
  have hr : RowB (w.alloc (.cells #[.int .u8 ((N : Int) / 65536 % 256), .int .u8 ((N : Int) / 256 % 256), .int .u8 ((N : Int) % 256)] 5)) (some ⟨w.heap.size, 0, none⟩) 3 3 (Crc.put N) := by
    rw [put_mod]; exact RowB.three w _ _ _ _ (by omega) (by omega) (by omega) (by omega) (by omega) (by omega)
  have hconv := hr.conv (P := Tryd.prog) 22 9 5 Tryd.underlying22 Tryd.underlying5 Tryd.underlying9
  clear hr
  go_enter Tryd.func114, Tryd.ntmps114
  go_wp2_with fail
  go_ret
  exact ⟨rfl, (by repeat (first | with_reducible exact Below.refl _ _ | with_reducible refine Below.drew ?_ | with_reducible refine Below.alloc ?_ (by (try simp) <;> omega) _ | with_reducible refine Below.setCell ?_ (by (try simp) <;> omega) _))⟩
end Go.Proofs.YtdmpopdacbdnlaaDoor
/- The contracts of package crc: Fits. -/
namespace Go.Proofs.YtdmpopdacbdnlaaDoor
open Go.RowKit
set_option linter.unusedVariables false
set_option linter.unusedSimpArgs false

theorem eq3d (q : Nat) (w : World) (a b c d e f : Int) : (Op.equalIn (q + 2) 191 (.agg #[.int .u8 a, .int .u8 b, .int .u8 c]) (.agg #[.int .u8 d, .int .u8 e, .int .u8 f])).run Tryd.prog w = .ok (a == d && b == e && c == f) w := by
  have hs : ∀ w, (sizeOf 5).run Tryd.prog w = .ok 1 w := fun w => by kernel_rfl
  have h0 : ∀ w (x y z : Value), (part 5 #[x, y, z] 0).run Tryd.prog w = .ok x w := fun w x y z => by kernel_rfl
  have h1 : ∀ w (x y z : Value), (part 5 #[x, y, z] 1).run Tryd.prog w = .ok y w := fun w x y z => by kernel_rfl
  have h2 : ∀ w (x y z : Value), (part 5 #[x, y, z] 2).run Tryd.prog w = .ok z w := fun w x y z => by kernel_rfl
  have hi : ∀ w x y, (Op.equalIn (q + 1) 5 (.int .u8 x) (.int .u8 y)).run Tryd.prog w = .ok (x == y) w := fun w x y => run_equalIn_int w q 5 .u8 .u8 x y Tryd.underlying5
  have hu : (Op.equalIn (q + 2) 191 (.agg #[.int .u8 a, .int .u8 b, .int .u8 c]) (.agg #[.int .u8 d, .int .u8 e, .int .u8 f])).run Tryd.prog w = (do
      for i in [0:3] do
        if !(← Op.equalIn (q + 1) 5 (← part 5 #[.int .u8 a, .int .u8 b, .int .u8 c] (i * 1)) (← part 5 #[.int .u8 d, .int .u8 e, .int .u8 f] (i * 1))) then return false
      pure true : Sem Bool).run Tryd.prog w := by
    rw [Op.equalIn]
    simp only [Sem.run_bind, run_underlying Tryd.underlying191, Result.andThen_ok, hs]
  rw [hu]
  simp only [Std.Legacy.Range.forIn_eq_forIn_range', Std.Legacy.Range.size]
  simp only [show (3 - 0 + 1 - 1) / 1 = 3 from rfl, show List.range' 0 3 1 = [0, 1, 2] from rfl, List.forIn_cons, List.forIn_nil]
  simp only [Sem.run_bind, h0, h1, h2, hi, Result.andThen_ok, Nat.mul_one]
  cases ha : a == d <;> cases hb : b == e <;> cases hc : c == f <;> simp [Sem.run_pure, h0, h1, h2, hi, ha, hb, hc]
theorem eq3 (w : World) (a b c d e f : Int) : (Op.equalIn 10000 191 (.agg #[.int .u8 a, .int .u8 b, .int .u8 c]) (.agg #[.int .u8 d, .int .u8 e, .int .u8 f])).run Tryd.prog w = .ok (a == d && b == e && c == f) w := eq3d 9998 w a b c d e f
theorem crc_fits_short (a : Option Addr) (len cap : Nat) (w : World) (h : len < 3) :
    Calls Tryd.prog 125 #[.slice a len cap] w fun e w' => e = .returned (.bool false) ∧ w = w' := by
  go_enter Tryd.func125, Tryd.ntmps125
  go_wp2_with fail
  go_ret
  exact ⟨rfl, rfl⟩

set_option maxHeartbeats 4000000 in
theorem crc_fits_core (b off n cap : Nat) (p : List UInt8) (x y z : Int) (p0 p1 p2 : UInt8) (w : World) (hm : n + 3 ≤ 9223372036854775807) (hcap : n + 3 ≤ cap) (hT : Tab w) (hrow : RowB w (some ⟨b, off, none⟩) n cap p)
    (hp : Hid (Crc.put (Crc.sum p).toNat = [p0, p1, p2]))
    (hb : b < w.heap.size) (c0 : w.cell? ⟨b, off + n, none⟩ = some (.int .u8 x)) (c1 : w.cell? ⟨b, off + n + 1, none⟩ = some (.int .u8 y)) (c2 : w.cell? ⟨b, off + n + 2, none⟩ = some (.int .u8 z)) :
    Calls Tryd.prog 125 #[.slice (some ⟨b, off, none⟩) (n + 3) cap] w fun e w' => e = .returned (.bool (x == (p0.toNat : Int) && y == (p1.toNat : Int) && z == (p2.toNat : Int))) ∧ Below w.heap.size w w' := by
  have ha : ∀ (W : World) (q : Option Addr) (c : Nat), (Instr.arrayAt 191 (.slice q 3 c)).run Tryd.prog W = .ok (.pointer q) W := fun W q c => run_arrayAt W _ _ 3 q 3 c Tryd.underlying191 (Nat.le_refl _)
  have he := fun W : World => eq3 W
  have i0 : (0 : Int) ≤ (n : Int) := by omega
  have i1 : (n : Int) ≤ (n : Int) + 3 := by omega
  have i2 : (n : Int) + 3 ≤ (cap : Int) := by omega
  have i3 : ¬ cap = n := by omega
  have i4 : (n : Int) ≤ (cap : Int) := by omega
  have hs := (Crc.sum p).isLt
  generalize hS : (Crc.sum p).toNat = S at *
  have HS := Lib.hid hS; clear hS
  go_enter Tryd.func125, Tryd.ntmps125
  go_wp2_with fail
  go_region_with    (first | (go_at_call 105; refine (crc_sum _ _ _ p _ (hT.below ((Below.refl _ _).drew)) (hrow.below ((Below.refl _ _).drew))).mono ?_; rintro e w' ⟨rfl, rfl⟩; rw [HS.out]) | (go_at_call 104; refine (crc_put _ (by omega) _).mono ?_; rintro e w1 ⟨rfl, hr, hb1, hz1⟩; rw [hp.out] at hr; obtain ⟨hc1, hf1⟩ := bcell hb1; obtain ⟨q0, q1, q2⟩ : w1.cell? ⟨w.heap.size, 0, none⟩ = some (.int .u8 (p0.toNat : Int)) ∧ w1.cell? ⟨w.heap.size, 1, none⟩ = some (.int .u8 (p1.toNat : Int)) ∧ w1.cell? ⟨w.heap.size, 2, none⟩ = some (.int .u8 (p2.toNat : Int)) := hr.three_at; clear hr; have q3 := (hc1 _ _ hb).trans c0; have q4 := (hc1 _ _ hb).trans c1; have q5 := (hc1 _ _ hb).trans c2; clear hc1))
  all_goals go_wp2
  all_goals (go_ret; exact ⟨rfl, (by repeat (first | with_reducible exact Below.refl _ _ | with_reducible refine Below.trans ?_ (Below.mono hb9 (by (try simp) <;> omega)) | with_reducible refine Below.trans ?_ (Below.mono hb8 (by (try simp) <;> omega)) | with_reducible refine Below.trans ?_ (Below.mono hb7 (by (try simp) <;> omega)) | with_reducible refine Below.trans ?_ (Below.mono hb6 (by (try simp) <;> omega)) | with_reducible refine Below.trans ?_ (Below.mono hb5 (by (try simp) <;> omega)) | with_reducible refine Below.trans ?_ (Below.mono hb4 (by (try simp) <;> omega)) | with_reducible refine Below.trans ?_ (Below.mono hb3 (by (try simp) <;> omega)) | with_reducible refine Below.trans ?_ (Below.mono hb2 (by (try simp) <;> omega)) | with_reducible refine Below.trans ?_ (Below.mono hb1 (by (try simp) <;> omega)) | with_reducible refine Below.drew ?_ | with_reducible refine Below.alloc ?_ (by (try simp) <;> omega) _ | with_reducible refine Below.setCell ?_ (by (try simp) <;> omega) _))⟩)

end Go.Proofs.YtdmpopdacbdnlaaDoor
/- The contracts of the reference's Fits. -/
namespace Go.Proofs.YtdmpopdacbdnlaaDoor
open Go.RowKit
set_option linter.unusedVariables false
set_option linter.unusedSimpArgs false

theorem extract_toList (t : ByteArray) (a b : Nat) (hb : b ≤ t.size) : (t.extract a b).data.toList = (t.data.toList.take b).drop a := by
  rw [Lib.extract_data]; rw [List.drop_take]
theorem ref_fits_long (t : ByteArray) (hn : 3 ≤ t.size) (w : World) (ht : t.size ≤ maxLen) (p0 p1 p2 : UInt8) (hp : Hid (Crc.put (Crc.sum (t.data.toList.take (t.size - 3))).toNat = [p0, p1, p2])) :
    Calls Tryd.prog 126 #[.string t] w fun e w' => e = .returned (.bool ([p0, p1, p2] == t.data.toList.drop (t.size - 3))) ∧ Below w.heap.size w w' := by
  have hm : t.size ≤ 9223372036854775807 := by unfold maxLen at ht; omega
  have hs := (Crc.sum (t.data.toList.take (t.size - 3))).isLt
  have i1 : (3 : Int) ≤ (t.size : Int) := by omega
  have i2 : (0 : Int) ≤ (t.size : Int) - 3 := by omega
  have i3 : (t.size : Int) - 3 ≤ (t.size : Int) := by omega
  have H1 : Hid ((t.extract 0 (t.size - 3)).data.toList = t.data.toList.take (t.size - 3)) := by rw [extract_toList _ _ _ (by omega)]; exact Lib.hid rfl
  have H2 : Hid ((t.extract 0 (t.size - 3)).size ≤ maxLen) := Lib.hid (by simp; omega)
  have hs1 : ∀ W, (Instr.slice 9 (.string t) none (some (.int .i64 ((t.size : Int) - 3))) none).run Tryd.prog W = .ok (.string (t.extract 0 (t.size - 3))) W := fun W => by
    have := run_slice_string_h W 9 t Tryd.underlying9 .i64 ((t.size : Int) - 3) i2 i3
    rw [this, show ((t.size : Int) - 3).toNat = t.size - 3 from by omega]
  have hs2 : ∀ W, (Instr.slice 9 (.string t) (some (.int .i64 ((t.size : Int) - 3))) none none).run Tryd.prog W = .ok (.string (t.extract (t.size - 3) t.size)) W := fun W => by
    have := run_slice_string_l W 9 t Tryd.underlying9 .i64 ((t.size : Int) - 3) i2 i3
    rw [this, show ((t.size : Int) - 3).toNat = t.size - 3 from by omega]
  have hw : IntKind.i64.wrap ((t.size : Int) - 3) = (t.size : Int) - 3 := IntWalk.i64_in _ (by omega)
  generalize hS : (Crc.sum (t.data.toList.take (t.size - 3))).toNat = S at *
  have HS := Lib.hid hS; clear hS
  go_enter Tryd.func126, Tryd.ntmps126
  go_wp2_with fail
  go_region_with (first | (go_at_call 115; refine (ref_sum03 _ _ H2.out).mono ?_; rintro e w' ⟨rfl, rfl⟩; rw [H1.out, HS.out]) | (go_at_call 114; refine (ref_put _ (by omega) _).mono ?_; rintro e w1 ⟨rfl, hb1⟩; rw [hp.out]))
  go_wp2
  go_ret
  refine ⟨ret_bool ?_, (by repeat (first | with_reducible exact Below.refl _ _ | with_reducible refine Below.trans ?_ (Below.mono hb9 (by (try simp) <;> omega)) | with_reducible refine Below.trans ?_ (Below.mono hb8 (by (try simp) <;> omega)) | with_reducible refine Below.trans ?_ (Below.mono hb7 (by (try simp) <;> omega)) | with_reducible refine Below.trans ?_ (Below.mono hb6 (by (try simp) <;> omega)) | with_reducible refine Below.trans ?_ (Below.mono hb5 (by (try simp) <;> omega)) | with_reducible refine Below.trans ?_ (Below.mono hb4 (by (try simp) <;> omega)) | with_reducible refine Below.trans ?_ (Below.mono hb3 (by (try simp) <;> omega)) | with_reducible refine Below.trans ?_ (Below.mono hb2 (by (try simp) <;> omega)) | with_reducible refine Below.trans ?_ (Below.mono hb1 (by (try simp) <;> omega)) | with_reducible refine Below.drew ?_ | with_reducible refine Below.alloc ?_ (by (try simp) <;> omega) _ | with_reducible refine Below.setCell ?_ (by (try simp) <;> omega) _))⟩
  rw [ByteArray.toList_eq, extract_toList _ _ _ (Nat.le_refl _), List.take_of_length_le (by simp)]

theorem ref_fits_short (t : ByteArray) (hn : t.size < 3) (w : World) :
    Calls Tryd.prog 126 #[.string t] w fun e w' => e = .returned (.bool false) ∧ w = w' := by
  go_enter Tryd.func126, Tryd.ntmps126
  go_wp2_with fail
  go_ret
  exact ⟨rfl, rfl⟩

/-- whether bytes end in their sum -/
def Crc.fits (l : List UInt8) : Bool := if l.length < 3 then false else Crc.put (Crc.sum (l.take (l.length - 3))).toNat == l.drop (l.length - 3)
theorem crc_fits (a : Option Addr) (len cap : Nat) (bs : List UInt8) (w : World) (hT : Tab w) (hrow : RowB w a len cap bs) :
    Calls Tryd.prog 125 #[.slice a len cap] w fun e w' => e = .returned (.bool (Crc.fits bs)) ∧ Below w.heap.size w w' := by
  have hl := hrow.length
  by_cases hlen : len < 3
  · refine (crc_fits_short a len cap w hlen).mono ?_
    rintro e w' ⟨rfl, rfl⟩
    exact ⟨ret_bool (by unfold Crc.fits; rw [if_pos (by omega)]), Below.refl _ _⟩
  · rcases hrow.at_ with h0 | ⟨b, off, rfl, hb, hc⟩
    · omega
    obtain ⟨n, rfl⟩ : ∃ n, len = n + 3 := ⟨len - 3, by omega⟩
    have hrow' : RowB w (some ⟨b, off, none⟩) n cap (bs.take n) := ⟨by simp; omega, by have := hrow.small; omega, by have := hrow.le; omega, .inr ⟨b, off, rfl, hb, fun i hi => by
      rw [hc i (by omega)]; simp [List.getD, hi]⟩, fun e => by cases e⟩
    have hm : n + 3 ≤ 9223372036854775807 := by have := hrow.small; unfold maxLen at this; omega
    have c0 := hc n (by omega)
    have c1 := hc (n + 1) (by omega)
    have c2 := hc (n + 2) (by omega)
    refine (crc_fits_core b off n cap (bs.take n) _ _ _ _ _ _ w hm hrow.le hT hrow' (Lib.hid (show Crc.put (Crc.sum (bs.take n)).toNat = [_, _, _] from rfl)) hb c0 (by simpa [Nat.add_assoc] using c1) (by simpa [Nat.add_assoc] using c2)).mono ?_
    rintro e w' ⟨rfl, hB⟩
    refine ⟨ret_bool ?_, hB⟩
    unfold Crc.fits
    rw [if_neg (by omega), show bs.length - 3 = n from by omega]
    have hd : bs.drop n = [bs.getD n 0, bs.getD (n + 1) 0, bs.getD (n + 2) 0] := by
      apply List.ext_getElem
      · simp; omega
      · intro i h1 h2
        simp at h2
        have : i = 0 ∨ i = 1 ∨ i = 2 := by omega
        rcases this with rfl | rfl | rfl <;> simp [List.getD, List.getElem?_eq_getElem, hl]
    rw [hd]
    unfold Crc.put
    have e8 : ∀ x y : UInt8, (((x.toNat : Int)) == (y.toNat : Int)) = (y == x) := fun x y => by
      rw [Bool.eq_iff_iff, beq_iff_eq, beq_iff_eq]
      exact ⟨fun h => (UInt8.toNat_inj.1 (by omega)).symm, fun h => by rw [h]⟩
    rw [e8, e8, e8]
    simp [Bool.and_assoc]
theorem ref_fits (t : ByteArray) (w : World) (ht : t.size ≤ maxLen) :
    Calls Tryd.prog 126 #[.string t] w fun e w' => e = .returned (.bool (Crc.fits t.data.toList)) ∧ Below w.heap.size w w' := by
  have hl : t.data.toList.length = t.size := by simp
  by_cases hlen : t.size < 3
  · refine (ref_fits_short t hlen w).mono ?_
    rintro e w' ⟨rfl, rfl⟩
    exact ⟨ret_bool (by unfold Crc.fits; rw [if_pos (by omega)]), Below.refl _ _⟩
  · refine (ref_fits_long t (by omega) w ht _ _ _ (Lib.hid (show Crc.put (Crc.sum (t.data.toList.take (t.size - 3))).toNat = [_, _, _] from rfl))).mono ?_
    rintro e w' ⟨rfl, hB⟩
    refine ⟨ret_bool ?_, hB⟩
    unfold Crc.fits
    rw [if_neg (by omega), hl]
    rfl
end Go.Proofs.YtdmpopdacbdnlaaDoor
