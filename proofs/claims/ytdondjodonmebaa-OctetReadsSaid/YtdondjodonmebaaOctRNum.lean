/- lookoutref01.Num: contract. -/
import Derived.Test.YtdondjodonmebaaOctOneLaw
namespace Go.Proofs.Ytdondjodonmebaa
open Go.RowKit
set_option linter.unusedVariables false
set_option linter.unusedSimpArgs false
set_option maxHeartbeats 2000000
set_option maxRecDepth 20000
def sfx (x : Nat) : Nat → List UInt8
  | 0 => []
  | j + 1 => UInt8.ofNat (x / 256 ^ j) :: sfx x j
theorem sfx_length (x j : Nat) : (sfx x j).length = j := by induction j with | zero => rfl | succ j ih => simp [sfx, ih]
theorem be_sfx (x k : Nat) : be x k k = sfx x k := by
  induction k with
  | zero => rfl
  | succ k ih =>
    rw [sfx, ← ih]
    unfold be
    rw [List.range_succ_eq_map, List.map_cons, List.map_map]
    congr 1
    refine List.map_congr_left fun i hi => ?_
    show byteAt x (k + 1) (i + 1) = byteAt x k i
    unfold byteAt
    rw [show k + 1 - 1 - (i + 1) = k - 1 - i from by omega]
theorem conv_one (W : World) (b : UInt8) (z : Int) (h : (b.toNat : Int) = z) : (convert 27 9 (.slice (some ⟨W.heap.size, 0, none⟩) 1 1)).run Try.prog (W.alloc (.cells #[.int .u8 z] 5)) = .ok (.string ⟨#[b]⟩) (W.alloc (.cells #[.int .u8 z] 5)) := by
  have hR : RowB (W.alloc (.cells #[.int .u8 z] 5)) (some ⟨W.heap.size, 0, none⟩) 1 1 [b] :=
    ⟨rfl, by decide, Nat.le_refl _, .inr ⟨W.heap.size, 0, rfl, by simp, fun i hi => by
      obtain rfl : i = 0 := by omega
      subst h
      simp [go_sem]⟩, fun e => by cases e⟩
  exact hR.conv 27 9 5 Try.underlying27 Try.underlying5 Try.underlying9
theorem ba_cons (b : UInt8) (l : List UInt8) : ((⟨#[b]⟩ : ByteArray) ++ (⟨l.toArray⟩ : ByteArray)) = ⟨(b :: l).toArray⟩ := by
  apply ByteArray.ext
  simp [ByteArray.data_append]
theorem ba_cons3 (b : UInt8) (l : List UInt8) : ((⟨#[b]⟩ : ByteArray) ++ (⟨#[]⟩ : ByteArray) ++ (⟨l.toArray⟩ : ByteArray)) = ⟨(b :: l).toArray⟩ := by
  apply ByteArray.ext
  simp [ByteArray.data_append]
theorem rnum_any (x : Nat) (hx : x < 18446744073709551616) (w : World) :
    Calls Try.prog 16 #[.int .u64 (x : Int)] w fun e w' => e = .returned (.string ⟨(enc x).toArray⟩) ∧ Below w.heap.size w w' := by
  by_cases h248 : x < 248
  · have en : enc x = [UInt8.ofNat x] := enc_small h248
    rw [en]
    have ec := ofNat_nat (n := x) (by omega)
    have cv := conv_one w (UInt8.ofNat x) x (by rw [ec])
    go_enter Try.func16, Try.ntmps16
    go_wp2_with fail
    go_ret
    exact ⟨rfl, (by repeat (first | with_reducible exact Below.refl _ _ | with_reducible refine Below.drew ?_ | with_reducible refine Below.alloc ?_ (by (try simp) <;> omega) _ | with_reducible refine Below.setCell ?_ (by (try simp) <;> omega) _))⟩
  · go_enter Try.func16, Try.ntmps16
    go_wp2_with fail
    go_loopw [3, 4] (fun s y wr => ∃ j : Nat, j ≤ 8 ∧ y = .int .u64 ((x / 256 ^ j : Nat) : Int) ∧ s = .string ⟨(sfx x j).toArray⟩ ∧ (j = 0 ∨ 0 < x / 256 ^ (j - 1)) ∧ Below w.heap.size w wr) (fun s y wr => (intOf y).toNat)
    case atStart => exact ⟨0, by omega, by simp, rfl, .inl rfl, Below.refl _ _⟩
    case round =>
      obtain ⟨j, hj, rfl, rfl, hpre, hbr⟩ := hrel
      have zr := hbr.size
      have hsl := sfx_length x j
      by_cases hpos : 0 < x / 256 ^ j
      · have hd : x / 256 ^ j / 256 = x / 256 ^ (j + 1) := by rw [Nat.pow_succ, Nat.div_div_eq_div_mul]
        have hj7 : j < 8 := by
          rcases Nat.lt_or_ge j 8 with h | h
          · exact h
          · obtain rfl : j = 8 := by omega
            rw [Nat.div_eq_of_lt (by omega)] at hpos
            omega
        have hyl : x / 256 ^ j < 18446744073709551616 := Nat.lt_of_le_of_lt (Nat.div_le_self _ _) hx
        have hs1 : sfx x (j + 1) = UInt8.ofNat (x / 256 ^ j) :: sfx x j := rfl
        have hp1 : 0 < x / 256 ^ (j + 1 - 1) := hpos
        generalize x / 256 ^ j = y at *
        generalize sfx x j = s0 at *
        have cv := conv_one wr (UInt8.ofNat y) ((y : Int) % 256) (by rw [UInt8.toNat_ofNat']; simp)
        go_wp2_with fail
        go_roundw
        case rel => exact ⟨j + 1, by omega, by rw [← hd]; simp, by rw [hs1, ba_cons], .inr hp1, Below.trans hbr (Below.mono ((by repeat (first | with_reducible exact Below.refl _ _ | with_reducible refine Below.drew ?_ | with_reducible refine Below.alloc ?_ (by (try simp) <;> omega) _ | with_reducible refine Below.setCell ?_ (by (try simp) <;> omega) _)) : Below wr.heap.size wr _) zr)⟩
        case measure => simp [intOf]; omega
      · have hz : x / 256 ^ j = 0 := Nat.eq_zero_of_not_pos hpos
        have hj1 : 1 ≤ j := by
          rcases Nat.eq_zero_or_pos j with h | h
          · subst h; rw [Nat.pow_zero, Nat.div_one] at hz; omega
          · exact h
        have hlo : 256 ^ (j - 1) ≤ x := by
          rcases hpre with h | h
          · omega
          · rcases Nat.lt_or_ge x (256 ^ (j - 1)) with h2 | h2
            · rw [Nat.div_eq_of_lt h2] at h; omega
            · exact h2
        have hhi : x < 256 ^ j := by
          rcases Nat.lt_or_ge x (256 ^ j) with h2 | h2
          · exact h2
          · exact absurd (Nat.div_pos h2 (Nat.pow_pos (by omega))) hpos
        have hn := nb_uniq (u := x) (by omega) hx hj1 hlo hhi
        have en : enc x = UInt8.ofNat (247 + j) :: sfx x j := by rw [enc_big (by omega), hn, be_sfx]
        replace en := Lib.hid en
        rw [hz]
        clear hpre hlo hhi hn hz hpos
        generalize sfx x j = s0 at *
        have q5 : (247 + (j : Int)) % 256 = 247 + (j : Int) := by omega
        have cv := conv_one wr (UInt8.ofNat (247 + j)) (247 + (j : Int)) (by rw [ofNat_nat (by omega)]; simp)
        generalize UInt8.ofNat (247 + j) = hb at *
        go_wp2_with fail
        go_ret
        exact ⟨by rw [en.out, ← ba_cons3]; rfl, Below.trans hbr (Below.mono ((by repeat (first | with_reducible exact Below.refl _ _ | with_reducible refine Below.drew ?_ | with_reducible refine Below.alloc ?_ (by (try simp) <;> omega) _ | with_reducible refine Below.setCell ?_ (by (try simp) <;> omega) _)) : Below wr.heap.size wr _) zr)⟩
end Go.Proofs.Ytdondjodonmebaa
