/- The walk of package crc's law on sums that stand behind bytes. -/
import Derived.Test.YtgpjgldpgfoapaaDoorCrcMath2
import Derived.Test.YtgpjgldpgfoapaaDoorCrcLaws
namespace Go.Proofs.YtgpjgldpgfoapaaDoor
open Go.RowKit
set_option linter.unusedVariables false
set_option linter.unusedSimpArgs false

theorem crcZero_walk (b : Option Addr) (lb cb : Nat) (zb : List Int) (s : Int) (ws : 0 ≤ s ∧ s ≤ 4294967295) (w : World) (hb : IsRow .u8 w b lb cb zb) (hT : Tab w) :
    Calls Tryd.prog 7 #[.slice b lb cb, .int .u32 s] w fun e w' => e = .returned (.bool true) ∧ Below w.heap.size w w' := by
  obtain ⟨N, rfl⟩ := Int.eq_ofNat_of_zero_le ws.1
  have hN : N < 4294967296 := by omega
  have hB := hb.bytes
  generalize bytesOf (zb.take lb) = xs at *
  clear hb ws
  by_cases h1 : 400 < lb
  · go_enter Tryd.func7, Tryd.ntmps7
    go_wp2_with fail
    refine (crc_awake _ hT).mono ?_; rintro e w1 ⟨rfl, hb1⟩
    go_wp2_with fail
    go_ret
    exact ⟨rfl, (by repeat (first | with_reducible exact Below.refl _ _ | with_reducible refine Below.trans ?_ (Below.mono hb9 (by (try simp) <;> omega)) | with_reducible refine Below.trans ?_ (Below.mono hb8 (by (try simp) <;> omega)) | with_reducible refine Below.trans ?_ (Below.mono hb7 (by (try simp) <;> omega)) | with_reducible refine Below.trans ?_ (Below.mono hb6 (by (try simp) <;> omega)) | with_reducible refine Below.trans ?_ (Below.mono hb5 (by (try simp) <;> omega)) | with_reducible refine Below.trans ?_ (Below.mono hb4 (by (try simp) <;> omega)) | with_reducible refine Below.trans ?_ (Below.mono hb3 (by (try simp) <;> omega)) | with_reducible refine Below.trans ?_ (Below.mono hb2 (by (try simp) <;> omega)) | with_reducible refine Below.trans ?_ (Below.mono hb1 (by (try simp) <;> omega)) | with_reducible refine Below.drew ?_ | with_reducible refine Below.alloc ?_ (by (try simp) <;> omega) _ | with_reducible refine Below.setCell ?_ (by (try simp) <;> omega) _))⟩
  have e1 : bits .and .u32 (N : Int) 16777215 = ((N % 16777216 : Nat) : Int) := by
    have := u32_and_nat N 16777215 (by omega) (by omega)
    rw [show N &&& 16777215 = N % 16777216 from Nat.and_two_pow_sub_one_eq_mod N 24] at this
    exact bits_at this rfl rfl
  have l1 := (Crc.sum xs).isLt
  have z1 := Crc.sum_put xs
  have z2 := Crc.fits_sum xs
  have z3 := Crc.fits_put xs N
  have z4 : Crc.fits (xs ++ Crc.put N) = (((N % 16777216 : Nat) : Int) == ((Crc.sum xs).toNat : Int)) := by
    rw [z3, Bool.eq_iff_iff, beq_iff_eq, beq_iff_eq]; omega
  clear z3
  generalize hS : (Crc.sum xs).toNat = S at *
  have HS := Lib.hid hS; clear hS
  have HP := Lib.hid (crc_put S (by omega))
  have HQ := Lib.hid (crc_put N hN)
  have Z1 := Lib.hid z1; have Z2 := Lib.hid z2; have Z4 := Lib.hid z4; clear z1 z2 z4
  have LB := Lib.hid hB.length
  have p3 := Crc.put_length S
  have q3 := Crc.put_length N
  have P3 := Lib.hid p3; have Q3 := Lib.hid q3; clear p3 q3
  have tok1 : True := trivial
  have tok2 : True := trivial
  have tok3 : True := trivial
  have tok4 : True := trivial
  go_enter Tryd.func7, Tryd.ntmps7
  go_wp2_with fail
  refine (crc_awake _ hT).mono ?_; rintro e w1 ⟨rfl, hb1⟩
  have hB1 := hB.below hb1
  have hT1 := hT.below hb1
  have O0 := OwnB.nil 5 w.heap.size w1
  go_wp2_with fail
  refine (crc_sum _ _ _ xs _ hT1 hB1).mono ?_; rintro e w' ⟨rfl, rfl⟩
  rw [HS.out]
  go_wp2_with (at_builtin; have _t := tok1; refine append_bytes 23 5 info8 Tryd.underlying23 rfl _ _ rfl w.heap.size (.slice none 0 0) [] 0 rfl rfl O0 b lb cb xs rfl hB1 (by omega) hb1.size ?_; intro q1 c1 w2 hO1 hR1 hG1; clear tok1; simp only [Nat.zero_add, List.nil_append] at hO1 hR1 ⊢; have HB2 := hb1.grown hG1 hb1.size (fun k e => by cases e); clear hB1 hT1 O0)
  refine (HP.out _).mono ?_; rintro e w3 ⟨rfl, hp, hb3, hz3⟩
  have HB3 : Below w.heap.size w w3 := HB2.trans (hb3.mono HB2.size)
  have hO2 := hO1.below hb3
  have B3 := hB.below HB3
  have O3 := fun W : World => OwnB.nil 5 W.heap.size W
  have O4 := Lib.hid O3; clear O3
  go_wp2_with (first
    | (at_builtin; have _t := tok2; refine append_bytes 23 5 info8 Tryd.underlying23 rfl _ _ rfl w.heap.size (.slice q1 lb c1) xs lb LB.out rfl hO2 (some ⟨w2.heap.size, 0, none⟩) 3 3 (Crc.put S) rfl hp (by omega) HB3.size ?_; intro q2 c2 w4 hO5 hR5 hG5; clear tok2; have HB4 := HB3.grown hG5 HB3.size (fun k hk => (hO2.owns.lt k hk).1); have B4 := hB.below HB4; clear B3)
    | (at_builtin; have _t := tok3; refine append_bytes 23 5 info8 Tryd.underlying23 rfl _ _ rfl w4.heap.size (.slice none 0 0) [] 0 rfl rfl (O4.out w4) b lb cb xs rfl B4 (by omega) (Nat.le_refl _) ?_; intro q5 c5 w5 hO6 hR6 hG6; clear tok3; simp only [Nat.zero_add, List.nil_append] at hO6 hR6 ⊢; have D5 := (Below.refl w4.heap.size w4).grown hG6 (Nat.le_refl _) (fun k e => by cases e)))
  refine (HQ.out _).mono ?_; rintro e w6 ⟨rfl, hq, hb6, hz6⟩
  have D6 : Below w4.heap.size w4 w6 := D5.trans (hb6.mono D5.size)
  have hO7 := hO6.below hb6
  clear hO2 hO1 hR1 hG1 hp hb3 hG5 hG6
  go_wp2_with (at_builtin; have _t := tok4; refine append_bytes 23 5 info8 Tryd.underlying23 rfl _ _ rfl w4.heap.size (.slice q5 lb c5) xs lb LB.out rfl hO7 (some ⟨w5.heap.size, 0, none⟩) 3 3 (Crc.put N) rfl hq (by omega) D6.size ?_; intro q8 c8 w8 hO8 hR8 hG8; clear tok4; have D8 := D6.grown hG8 D6.size (fun k hk => (hO7.owns.lt k hk).1))
  have HB8 : Below w.heap.size w w8 := HB4.trans (D8.mono HB4.size)
  have R8 := hR5.below D8
  have T8 := hT.below HB8
  refine (crc_sum _ _ _ (xs ++ Crc.put S) _ T8 R8).mono ?_; rintro e w' ⟨rfl, rfl⟩
  rw [Z1.out]
  go_wp2_with fail
  refine (crc_fits _ _ _ (xs ++ Crc.put S) _ T8 R8).mono ?_; rintro e w9 ⟨rfl, hb9⟩
  rw [Z2.out]
  have HB9 : Below w.heap.size w w9 := HB8.trans (hb9.mono HB8.size)
  have R9 := hR8.below hb9
  have T9 := T8.below hb9
  clear R8 hb9
  go_wp2_with fail
  refine (crc_fits _ _ _ (xs ++ Crc.put N) _ T9 R9).mono ?_; rintro e w10 ⟨rfl, hb10⟩
  rw [Z4.out]
  have HB10 : Below w.heap.size w w10 := HB9.trans (hb10.mono HB9.size)
  clear R9 T9 hb10
  go_wp2_with fail
  go_ret
  exact ⟨by simp, HB10⟩
end Go.Proofs.YtgpjgldpgfoapaaDoor
