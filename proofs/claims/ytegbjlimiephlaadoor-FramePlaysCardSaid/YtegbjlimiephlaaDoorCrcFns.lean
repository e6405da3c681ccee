/- The contracts of package crc and of its reference. -/
import Derived.Test.YtegbjlimiephlaaDoorRows
import Derived.Test.YtegbjlimiephlaaDoorCrcMath
import Derived.Test.YtegbjlimiephlaaDoorKit
import Derived.BigQuiet
import Derived.Deep.QuietTactic
import Derived.WalkLawsBesides
import Derived.WalkSpells
namespace Go.Proofs.YtegbjlimiephlaaDoor
open Go.RowKit
set_option linter.unusedVariables false
set_option linter.unusedSimpArgs false

/-- The table's cells. -/
structure Tab (w : World) : Prop where
  lt : 0 < w.heap.size
  cell : ∀ i, i < 16 → w.cell? ⟨0, i, none⟩ = some (.int .u32 ((Crc.turns.getD i 0 : Nat) : Int))
theorem Tab.below {w w' : World} (h : Tab w) (hb : Below w.heap.size w w') : Tab w' :=
  ⟨Nat.lt_of_lt_of_le h.lt hb.size, fun i hi => by rw [(bcell hb).1 _ _ h.lt]; exact h.cell i hi⟩

theorem bits_at {o : BinOp} {k : IntKind} {a b r : Int} {c d : Int} (h : bits o k a b = r) (hc : c = a) (hd : d = b) : bits o k c d = r := by rw [hc, hd]; exact h

theorem crc_four (x : BitVec 24) (b : Nat) (hb : b < 16) (w : World) (hT : Tab w) :
    Calls Tryd.prog 40 #[.int .u32 (x.toNat : Int), .int .u8 (b : Int)] w fun e w' => e = .returned (.int .u32 ((Crc.four x b).toNat : Int)) ∧ w = w' := by
  have hx : x.toNat < 16777216 := x.isLt
  have hf := Crc.four_eq x b hb
  have ht := Crc.turns_lt
  generalize x.toNat = X at *
  generalize (Crc.four x b).toNat = R at *
  clear x
  have e1 : bits .and .u32 ((X : Int) * 16) 16777215 = ((X * 16 % 16777216 : Nat) : Int) := by
    have := u32_and_nat (X * 16) 16777215 (by omega) (by omega)
    rw [show (X * 16) &&& 16777215 = X * 16 % 16777216 from Nat.and_two_pow_sub_one_eq_mod (X * 16) 24] at this
    exact bits_at this (by omega) (by omega)
  have e2 : bits .xor .u32 ((X : Int) / 1048576) (b : Int) = ((X / 1048576 ^^^ b : Nat) : Int) := by
    have := u32_xor_nat (X / 1048576) b (by omega) (by omega)
    exact bits_at this (by omega) (by omega)
  have hj : X / 1048576 ^^^ b < 16 := by
    have := Nat.xor_lt_two_pow (n := 4) (x := X / 1048576) (y := b) (by omega) (by omega)
    simpa using this
  generalize X / 1048576 ^^^ b = j at *
  have hc := hT.cell j hj
  have hlt := ht ⟨j, hj⟩
  simp only at hlt
  generalize Crc.turns.getD j 0 = t at *
  have e3 : bits .xor .u32 ((X * 16 % 16777216 : Nat) : Int) (t : Int) = (R : Int) := by
    rw [hf]; exact u32_xor_nat _ _ (by omega) (by omega)
  generalize X * 16 % 16777216 = m at *
  clear hf ht hlt hT
  have hj' : (j : Int) < 16 := by omega
  clear hj
  go_enter Tryd.func40, Tryd.ntmps40
  go_wp2_with fail
  go_ret
  exact ⟨rfl, rfl⟩

theorem ref_step (x : BitVec 24) (b : Bool) (w : World) :
    Calls Tryd.prog 41 #[.int .u32 (x.toNat : Int), .int .u32 (b.toNat : Int)] w fun e w' => e = .returned (.int .u32 ((Crc.stepB x b).toNat : Int)) ∧ w = w' := by
  have hx : x.toNat < 16777216 := x.isLt
  have hf := Crc.stepB_eq x b
  have hb : b.toNat ≤ 1 := Bool.toNat_le b
  generalize x.toNat = X at *
  generalize (Crc.stepB x b).toNat = R at *
  generalize b.toNat = c at *
  clear x b
  by_cases h : X / 8388608 % 2 = c
  · rw [if_pos h] at hf
    have e1 : ((X : Int) / 8388608 % 2 != (c : Int)) = false := by simp; omega
    have e2 : (X : Int) * 2 % 16777216 = (R : Int) := by omega
    clear h hf
    go_enter Tryd.func41, Tryd.ntmps41
    go_wp2_with fail
    go_ret
    exact ⟨ret_int (by omega), rfl⟩
  · rw [if_neg h] at hf
    have e1 : ((X : Int) / 8388608 % 2 != (c : Int)) = true := by simp; omega
    have e2 : bits .xor .u32 ((X : Int) * 2 % 16777216) 8801531 = (R : Int) := by
      rw [hf]; exact bits_at (u32_xor_nat (X * 2 % 16777216) 8801531 (by omega) (by omega)) (by omega) (by omega)
    clear h hf
    go_enter Tryd.func41, Tryd.ntmps41
    go_wp2_with fail
    go_ret
    exact ⟨rfl, rfl⟩

theorem crc_fourI (x : BitVec 24) (b : Int) (w : World) (hT : Tab w) (hb : 0 ≤ b) (hb' : b < 16) :
    Calls Tryd.prog 40 #[.int .u32 (x.toNat : Int), .int .u8 b] w fun e w' => e = .returned (.int .u32 ((Crc.four x b.toNat).toNat : Int)) ∧ w = w' := by
  obtain ⟨n, rfl⟩ := Int.eq_ofNat_of_zero_le hb
  exact crc_four x n (by omega) w hT
theorem ref_stepI (x : BitVec 24) (b : Int) (w : World) (hb : 0 ≤ b) (hb' : b < 2) :
    Calls Tryd.prog 41 #[.int .u32 (x.toNat : Int), .int .u32 b] w fun e w' => e = .returned (.int .u32 ((Crc.stepB x (decide (b = 1))).toNat : Int)) ∧ w = w' := by
  have h01 : b = 0 ∨ b = 1 := by omega
  rcases h01 with rfl | rfl
  · exact ref_step x false w
  · exact ref_step x true w

def st (N : Nat) : BitVec 24 := BitVec.ofNat 24 N
theorem crc_more (N : Nat) (hN : N < 4294967296) (a : Option Addr) (len cap : Nat) (bs : List UInt8) (w : World) (hT : Tab w) (h : RowB w a len cap bs) :
    Calls Tryd.prog 36 #[.int .u32 (N : Int), .slice a len cap] w fun e w' => e = .returned (.int .u32 ((Crc.more (st N) bs).toNat : Int)) ∧ w = w' := by
  have hm : len ≤ 9223372036854775807 := by have := h.small; unfold maxLen at this; omega
  have hl := h.length
  have e1 : bits .and .u32 (N : Int) 16777215 = ((st N).toNat : Int) := by
    have := u32_and_nat N 16777215 (by omega) (by omega)
    rw [show N &&& 16777215 = N % 16777216 from Nat.and_two_pow_sub_one_eq_mod N 24] at this
    have e2 : (st N).toNat = N % 16777216 := by simp [st]
    rw [e2]; exact bits_at this rfl rfl
  generalize st N = s0 at *
  go_enter Tryd.func36, Tryd.ntmps36
  go_wp2_with fail
  go_loop [0, 11] (fun s i => ∃ k : Nat, k ≤ len ∧ i = .int .i64 k ∧ s = .int .u32 ((Crc.more s0 (bs.take k)).toNat : Int)) (fun _ i => len - (intOf i).toNat)
  case atStart => exact ⟨0, Nat.zero_le _, rfl, rfl⟩
  case round =>
    obtain ⟨k, hk, rfl, rfl⟩ := hrel
    clear e1
    by_cases hlt : k < len
    · rcases h.at_ with h0 | ⟨b, off, rfl, hl', hc⟩
      · omega
      have hck := hc k hlt
      have hts := take_succ' (l := bs) (i := k) (by omega)
      clear hc
      generalize hcc : bs.getD k 0 = c at *
      have hc8 := c.toNat_lt
      have H1 : Hid (Crc.more s0 (bs.take (k + 1)) = Crc.byte (Crc.more s0 (bs.take k)) c) := by rw [hts, Crc.more_snoc]; exact Lib.hid rfl
      clear hts hcc
      generalize Crc.more s0 (bs.take k) = x at *
      have H2 := Lib.hid (Crc.byte_four x c)
      go_wp2_with fail
      refine (crc_fourI _ _ _ hT (by omega) (by omega)).mono ?_; rintro e w' ⟨rfl, rfl⟩
      go_wp2_with fail
      refine (crc_fourI _ _ _ hT (by omega) (by omega)).mono ?_; rintro e w' ⟨rfl, rfl⟩
      go_wp2_with fail
      go_round
      case rel => exact ⟨k + 1, by omega, by go_num, by rw [H1.out, H2.out]; rfl⟩
      case measure => simp [intOf]; omega
    · obtain rfl : k = len := by omega
      go_wp2_with fail
      go_ret
      exact ⟨by rw [List.take_of_length_le (by omega)]; rfl, rfl⟩

theorem str_getD (t : ByteArray) (k : Nat) (h : k < t.size) : t.data.toList.getD k 0 = t[k] := by
  have h' : k < t.data.toList.length := by simpa using h
  rw [getD_eq h']; rfl
theorem ref_more (N : Nat) (hN : N < 4294967296) (t : ByteArray) (w : World) (ht : t.size ≤ maxLen) :
    Calls Tryd.prog 37 #[.int .u32 (N : Int), .string t] w fun e w' => e = .returned (.int .u32 ((Crc.more (st N) t.data.toList).toNat : Int)) ∧ w = w' := by
  have hm : t.size ≤ 9223372036854775807 := by unfold maxLen at ht; omega
  have hl : t.data.toList.length = t.size := by simp
  have e1 : (N : Int) % 16777216 = ((st N).toNat : Int) := by
    have e2 : (st N).toNat = N % 16777216 := by simp [st]
    omega
  have H0 := Lib.hid hl; clear hl
  generalize st N = s0 at *
  go_enter Tryd.func37, Tryd.ntmps37
  go_wp2_with fail
  go_loop [5, 6] (fun s i => ∃ k : Nat, k ≤ t.size ∧ i = .int .i64 k ∧ s = .int .u32 ((Crc.more s0 (t.data.toList.take k)).toNat : Int)) (fun _ i => t.size - (intOf i).toNat)
  case atStart => exact ⟨0, Nat.zero_le _, rfl, by rw [e1]; rfl⟩
  case round =>
    obtain ⟨k, hk, rfl, rfl⟩ := hrel
    clear e1
    by_cases hlt : k < t.size
    · have hts := take_succ' (l := t.data.toList) (i := k) (by rw [H0.out]; exact hlt)
      rw [str_getD t k hlt] at hts
      have H1 : Hid (Crc.more s0 (t.data.toList.take (k + 1)) = Crc.byte (Crc.more s0 (t.data.toList.take k)) t[k]) := by rw [hts, Crc.more_snoc]; exact Lib.hid rfl
      clear hts
      generalize Crc.more s0 (t.data.toList.take k) = x at *
      have H2 := Lib.hid (Crc.byte_bits x t[k])
      go_wp2_with fail
      go_loop [5, 7] (fun s i => ∃ j : Nat, j ≤ 8 ∧ i = .int .i64 (7 - (j : Int)) ∧ s = .int .u32 ((Crc.bitsTo x t[k].toNat j).toNat : Int)) (fun _ i => (intOf i + 1).toNat)
      case atStart => exact ⟨0, by omega, by simp, rfl⟩
      case round =>
        obtain ⟨j, hj, rfl, rfl⟩ := hrel
        have hc8 := t[k].toNat_lt
        by_cases hj8 : j < 8
        · have H3 : Hid (Crc.bitsTo x t[k].toNat (j + 1) = Crc.stepB (Crc.bitsTo x t[k].toNat j) (t[k].toNat.testBit (7 - j))) := Lib.hid rfl
          have H4 : Hid (t[k].toNat.testBit (7 - j) = decide (((t[k].toNat : Int) / 2 ^ (7 - j)) % 2 = 1)) := by
            rw [Nat.testBit_eq_decide_div_mod_eq]; apply Lib.hid; congr 1
            have : (((t[k].toNat / 2 ^ (7 - j) : Nat) : Int)) = (t[k].toNat : Int) / 2 ^ (7 - j) := by simp
            rw [← this]; simp; omega
          have hq : (0 : Int) ≤ (t[k].toNat : Int) / 2 ^ (7 - j) := Int.ediv_nonneg (by omega) (by exact_mod_cast Nat.zero_le (2 ^ (7 - j)))
          generalize Crc.bitsTo x t[k].toNat j = y at *
          go_wp2_with fail
          refine (ref_stepI _ _ _ (by omega) (by omega)).mono ?_; rintro e w' ⟨rfl, rfl⟩
          go_wp2_with fail
          go_round
          case rel => exact ⟨j + 1, by omega, by go_num, by rw [H3.out, H4.out]⟩
          case measure => simp [intOf]; omega
        · obtain rfl : j = 8 := by omega
          go_wp2_with fail
          go_round
          case rel => exact ⟨k + 1, by omega, by go_num, by rw [H1.out, H2.out]⟩
          case measure => simp [intOf]; omega
    · obtain rfl : k = t.size := by omega
      go_wp2_with fail
      go_ret
      exact ⟨by rw [List.take_of_length_le (by rw [H0.out]; omega)]; rfl, rfl⟩

theorem crc_sum (a : Option Addr) (len cap : Nat) (bs : List UInt8) (w : World) (hT : Tab w) (h : RowB w a len cap bs) :
    Calls Tryd.prog 28 #[.slice a len cap] w fun e w' => e = .returned (.int .u32 ((Crc.sum bs).toNat : Int)) ∧ w = w' := by
  have H := crc_more 11994318 (by omega) a len cap bs w hT h
  have H1 := Lib.hid H; clear H
  go_enter Tryd.func28, Tryd.ntmps28
  go_wp2_with fail
  refine (H1.out).mono ?_; rintro e w' ⟨rfl, rfl⟩
  go_wp2_with fail
  go_ret
  exact ⟨rfl, rfl⟩
theorem ref_sum03 (t : ByteArray) (w : World) (ht : t.size ≤ maxLen) :
    Calls Tryd.prog 30 #[.string t] w fun e w' => e = .returned (.int .u32 ((Crc.sum t.data.toList).toNat : Int)) ∧ w = w' := by
  have H1 := Lib.hid (ref_more 11994318 (by omega) t w ht)
  go_enter Tryd.func30, Tryd.ntmps30
  go_wp2_with fail
  refine (H1.out).mono ?_; rintro e w' ⟨rfl, rfl⟩
  go_wp2_with fail
  go_ret
  exact ⟨rfl, rfl⟩
theorem put_mod (N : Nat) : Crc.put N = [UInt8.ofNat (N / 65536 % 256), UInt8.ofNat (N / 256 % 256), UInt8.ofNat (N % 256)] := by
  have h : ∀ n : Nat, UInt8.ofNat (n % 256) = UInt8.ofNat n := fun n => by apply UInt8.toNat_inj.1; simp
  unfold Crc.put; rw [h, h, h]
theorem crc_put (N : Nat) (hN : N < 4294967296) (w : World) :
    Calls Tryd.prog 27 #[.int .u32 (N : Int)] w fun e w' => e = .returned (.slice (some ⟨w.heap.size, 0, none⟩) 3 3) ∧ RowB w' (some ⟨w.heap.size, 0, none⟩) 3 3 (Crc.put N) ∧ Below w.heap.size w w' ∧ w.heap.size < w'.heap.size := by
  go_enter Tryd.func27, Tryd.ntmps27
  go_wp2_with fail
  go_ret
  exact ⟨rfl, by rw [put_mod]; exact RowB.three w _ _ _ _ (by omega) (by omega) (by omega) (by omega) (by omega) (by omega), (by repeat (first | with_reducible exact Below.refl _ _ | with_reducible refine Below.drew ?_ | with_reducible refine Below.alloc ?_ (by (try simp) <;> omega) _ | with_reducible refine Below.setCell ?_ (by (try simp) <;> omega) _)), by simp⟩
theorem ref_put (N : Nat) (hN : N < 4294967296) (w : World) :
    Calls Tryd.prog 29 #[.int .u32 (N : Int)] w fun e w' => e = .returned (.string ⟨(Crc.put N).toArray⟩) ∧ Below w.heap.size w w' := by
  have hr : RowB (w.alloc (.cells #[.int .u8 ((N : Int) / 65536 % 256), .int .u8 ((N : Int) / 256 % 256), .int .u8 ((N : Int) % 256)] 5)) (some ⟨w.heap.size, 0, none⟩) 3 3 (Crc.put N) := by
    rw [put_mod]; exact RowB.three w _ _ _ _ (by omega) (by omega) (by omega) (by omega) (by omega) (by omega)
  have hconv := hr.conv (P := Tryd.prog) 22 9 5 Tryd.underlying22 Tryd.underlying5 Tryd.underlying9
  clear hr
  go_enter Tryd.func29, Tryd.ntmps29
  go_wp2_with fail
  go_ret
  exact ⟨rfl, (by repeat (first | with_reducible exact Below.refl _ _ | with_reducible refine Below.drew ?_ | with_reducible refine Below.alloc ?_ (by (try simp) <;> omega) _ | with_reducible refine Below.setCell ?_ (by (try simp) <;> omega) _))⟩
end Go.Proofs.YtegbjlimiephlaaDoor
