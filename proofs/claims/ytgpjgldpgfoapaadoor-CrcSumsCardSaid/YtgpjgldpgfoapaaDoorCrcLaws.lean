/- The walks of package crc's laws. -/
import Derived.Test.YtgpjgldpgfoapaaDoorCrcFits2
import Derived.Lib.SlBytesConst
import Derived.Lib.LaidTab
namespace Go.Proofs.YtgpjgldpgfoapaaDoor
open Go.RowKit
set_option linter.unusedVariables false
set_option linter.unusedSimpArgs false

def turnsI : List Int := [0, 8801531, 9098509, 825846, 9692897, 1419802, 1651692, 10452759, 10584377, 2608578, 2839604, 11344079, 3303384, 11807523, 12104405, 4128302]
theorem turnsI_eq : ∀ i : Fin 16, turnsI.getD i.val 0 = ((Crc.turns.getD i.val 0 : Nat) : Int) := by decide
theorem Tab.of {w : World} (hT : Lib.TabIs Tryd.prog w "lookout/crc.turns" .u32 turnsI) (hg : Tryd.prog.globalNamed "lookout/crc.turns" = some 0) : Tab w :=
  ⟨World.block_lt_of_cell? w ⟨0, 0, none⟩ (hT.cell hg 0 (by decide)), fun i hi => by rw [hT.cell hg i hi, turnsI_eq ⟨i, hi⟩]⟩
theorem info8 : (Tryd.prog.info? 5).map (fun i => (i.zero, i.size, i.bytes)) = some (some (.int .u8 0), 1, 1) := by kernel_rfl

theorem crc_awake (w : World) (hT : Tab w) : Calls Tryd.prog 9 #[] w fun e w' => e = .returned (.bool true) ∧ Below w.heap.size w w' := by
  have k1 : ((Crc.sum [49, 50, 51, 52, 53, 54, 55, 56, 57]).toNat : Int) = 2215682 := by decide +kernel
  have k2 : ((Crc.sum []).toNat : Int) = 11994318 := by decide +kernel
  have k3 : Crc.put 2215682 = [33, 207, 2] := by decide +kernel
  have k4 : Crc.fits [183, 4, 206] = true := by decide +kernel
  have k5 : Crc.fits [183, 4, 207] = false := by decide +kernel
  have K1 := Lib.hid k1; have K2 := Lib.hid k2; have K3 := Lib.hid k3; have K4 := Lib.hid k4; have K5 := Lib.hid k5
  clear k1 k2 k3 k4 k5
  have hp := crc_put 2215682 (by omega)
  have HP := Lib.hid hp; clear hp
  have kc := fun (w : World) (C : Array Value) (n c : Nat) => Lib.run_convert_bytes_const (P := Tryd.prog) w 23 5 C n c Tryd.underlying23 Tryd.underlying5
  go_enter Tryd.func9, Tryd.ntmps9
  go_wp2_with fail
  refine (crc_sum _ _ _ [49, 50, 51, 52, 53, 54, 55, 56, 57] _ (hT.below (by repeat (first | with_reducible exact Below.refl _ _ | with_reducible refine Below.drew ?_ | with_reducible refine Below.alloc ?_ (by (try simp) <;> omega) _ | with_reducible refine Below.setCell ?_ (by (try simp) <;> omega) _))) (RowB.newM w [49, 50, 51, 52, 53, 54, 55, 56, 57] _ _ _ (by rfl) (by decide) 9 (by rfl))).mono ?_; rintro e w' ⟨rfl, rfl⟩; rw [K1.out]
  go_wp2_with fail
  refine (crc_sum _ _ _ [] _ (hT.below (by repeat (first | with_reducible exact Below.refl _ _ | with_reducible refine Below.drew ?_ | with_reducible refine Below.alloc ?_ (by (try simp) <;> omega) _ | with_reducible refine Below.setCell ?_ (by (try simp) <;> omega) _))) ⟨rfl, by decide, Nat.le_refl _, .inl rfl, fun _ => rfl⟩).mono ?_; rintro e w' ⟨rfl, rfl⟩; rw [K2.out]
  go_wp2_with fail
  refine (HP.out _).mono ?_; rintro e w1 ⟨rfl, hr, hb1, hz1⟩
  rw [K3.out] at hr
  have hz0 : w.heap.size < w1.heap.size := by have := hb1.size; simp at this; omega
  have hcv := hr.conv (P := Tryd.prog) 23 9 5 Tryd.underlying23 Tryd.underlying5 Tryd.underlying9
  simp only [World.size_alloc] at hcv
  clear hr
  obtain ⟨hc1, hf1⟩ := bcell hb1
  have hT1 : Tab w1 := hT.below (by repeat (first | with_reducible exact Below.refl _ _ | with_reducible refine Below.trans ?_ (Below.mono hb9 (by (try simp) <;> omega)) | with_reducible refine Below.trans ?_ (Below.mono hb8 (by (try simp) <;> omega)) | with_reducible refine Below.trans ?_ (Below.mono hb7 (by (try simp) <;> omega)) | with_reducible refine Below.trans ?_ (Below.mono hb6 (by (try simp) <;> omega)) | with_reducible refine Below.trans ?_ (Below.mono hb5 (by (try simp) <;> omega)) | with_reducible refine Below.trans ?_ (Below.mono hb4 (by (try simp) <;> omega)) | with_reducible refine Below.trans ?_ (Below.mono hb3 (by (try simp) <;> omega)) | with_reducible refine Below.trans ?_ (Below.mono hb2 (by (try simp) <;> omega)) | with_reducible refine Below.trans ?_ (Below.mono hb1 (by (try simp) <;> omega)) | with_reducible refine Below.drew ?_ | with_reducible refine Below.alloc ?_ (by (try simp) <;> omega) _ | with_reducible refine Below.setCell ?_ (by (try simp) <;> omega) _))
  go_wp2_with fail
  refine (crc_fits _ _ _ [183, 4, 206] _ (hT1.below (by repeat (first | with_reducible exact Below.refl _ _ | with_reducible refine Below.drew ?_ | with_reducible refine Below.alloc ?_ (by (try simp) <;> omega) _ | with_reducible refine Below.setCell ?_ (by (try simp) <;> omega) _))) (RowB.newM w1 [183, 4, 206] _ _ _ (by rfl) (by decide) 3 (by rfl))).mono ?_; rintro e w2 ⟨rfl, hb2⟩; rw [K4.out]
  have hT2 : Tab w2 := hT1.below (by repeat (first | with_reducible exact Below.refl _ _ | with_reducible refine Below.trans ?_ (Below.mono hb2 (by (try simp) <;> omega)) | with_reducible refine Below.drew ?_ | with_reducible refine Below.alloc ?_ (by (try simp) <;> omega) _ | with_reducible refine Below.setCell ?_ (by (try simp) <;> omega) _))
  go_wp2_with fail
  refine (crc_fits _ _ _ [183, 4, 207] _ (hT2.below (by repeat (first | with_reducible exact Below.refl _ _ | with_reducible refine Below.drew ?_ | with_reducible refine Below.alloc ?_ (by (try simp) <;> omega) _ | with_reducible refine Below.setCell ?_ (by (try simp) <;> omega) _))) (RowB.newM w2 [183, 4, 207] _ _ _ (by rfl) (by decide) 3 (by rfl))).mono ?_; rintro e w3 ⟨rfl, hb3⟩; rw [K5.out]
  have hz2 := hb2.size
  have hz3 := hb3.size
  simp at hz2 hz3
  go_wp2_with fail
  go_ret
  exact ⟨rfl, (by repeat (first | with_reducible exact Below.refl _ _ | with_reducible refine Below.trans ?_ (Below.mono hb9 (by (try simp) <;> omega)) | with_reducible refine Below.trans ?_ (Below.mono hb8 (by (try simp) <;> omega)) | with_reducible refine Below.trans ?_ (Below.mono hb7 (by (try simp) <;> omega)) | with_reducible refine Below.trans ?_ (Below.mono hb6 (by (try simp) <;> omega)) | with_reducible refine Below.trans ?_ (Below.mono hb5 (by (try simp) <;> omega)) | with_reducible refine Below.trans ?_ (Below.mono hb4 (by (try simp) <;> omega)) | with_reducible refine Below.trans ?_ (Below.mono hb3 (by (try simp) <;> omega)) | with_reducible refine Below.trans ?_ (Below.mono hb2 (by (try simp) <;> omega)) | with_reducible refine Below.trans ?_ (Below.mono hb1 (by (try simp) <;> omega)) | with_reducible refine Below.drew ?_ | with_reducible refine Below.alloc ?_ (by (try simp) <;> omega) _ | with_reducible refine Below.setCell ?_ (by (try simp) <;> omega) _))⟩

theorem crcMore_walk (s : Int) (ws : 0 ≤ s ∧ s ≤ 4294967295) (a : Option Addr) (la ca : Nat) (za : List Int) (b : Option Addr) (lb cb : Nat) (zb : List Int) (w : World) (ha : IsRow .u8 w a la ca za) (hb : IsRow .u8 w b lb cb zb) (hT : Tab w) :
    Calls Tryd.prog 4 #[.int .u32 s, .slice a la ca, .slice b lb cb] w fun e w' => e = .returned (.bool true) ∧ Below w.heap.size w w' := by
  obtain ⟨N, rfl⟩ := Int.eq_ofNat_of_zero_le ws.1
  have hN : N < 4294967296 := by omega
  have hA := ha.bytes
  have hB := hb.bytes
  generalize bytesOf (za.take la) = xs at *
  generalize bytesOf (zb.take lb) = ys at *
  clear ha hb ws
  by_cases h1 : 400 < la
  · go_enter Tryd.func4, Tryd.ntmps4
    go_wp2_with fail
    refine (crc_awake _ hT).mono ?_; rintro e w1 ⟨rfl, hb1⟩
    go_wp2_with fail
    go_ret
    exact ⟨rfl, (by repeat (first | with_reducible exact Below.refl _ _ | with_reducible refine Below.trans ?_ (Below.mono hb9 (by (try simp) <;> omega)) | with_reducible refine Below.trans ?_ (Below.mono hb8 (by (try simp) <;> omega)) | with_reducible refine Below.trans ?_ (Below.mono hb7 (by (try simp) <;> omega)) | with_reducible refine Below.trans ?_ (Below.mono hb6 (by (try simp) <;> omega)) | with_reducible refine Below.trans ?_ (Below.mono hb5 (by (try simp) <;> omega)) | with_reducible refine Below.trans ?_ (Below.mono hb4 (by (try simp) <;> omega)) | with_reducible refine Below.trans ?_ (Below.mono hb3 (by (try simp) <;> omega)) | with_reducible refine Below.trans ?_ (Below.mono hb2 (by (try simp) <;> omega)) | with_reducible refine Below.trans ?_ (Below.mono hb1 (by (try simp) <;> omega)) | with_reducible refine Below.drew ?_ | with_reducible refine Below.alloc ?_ (by (try simp) <;> omega) _ | with_reducible refine Below.setCell ?_ (by (try simp) <;> omega) _))⟩
  by_cases h2 : 400 < lb
  · go_enter Tryd.func4, Tryd.ntmps4
    go_wp2_with fail
    refine (crc_awake _ hT).mono ?_; rintro e w1 ⟨rfl, hb1⟩
    go_wp2_with fail
    go_ret
    exact ⟨rfl, (by repeat (first | with_reducible exact Below.refl _ _ | with_reducible refine Below.trans ?_ (Below.mono hb9 (by (try simp) <;> omega)) | with_reducible refine Below.trans ?_ (Below.mono hb8 (by (try simp) <;> omega)) | with_reducible refine Below.trans ?_ (Below.mono hb7 (by (try simp) <;> omega)) | with_reducible refine Below.trans ?_ (Below.mono hb6 (by (try simp) <;> omega)) | with_reducible refine Below.trans ?_ (Below.mono hb5 (by (try simp) <;> omega)) | with_reducible refine Below.trans ?_ (Below.mono hb4 (by (try simp) <;> omega)) | with_reducible refine Below.trans ?_ (Below.mono hb3 (by (try simp) <;> omega)) | with_reducible refine Below.trans ?_ (Below.mono hb2 (by (try simp) <;> omega)) | with_reducible refine Below.trans ?_ (Below.mono hb1 (by (try simp) <;> omega)) | with_reducible refine Below.drew ?_ | with_reducible refine Below.alloc ?_ (by (try simp) <;> omega) _ | with_reducible refine Below.setCell ?_ (by (try simp) <;> omega) _))⟩
  have e1 : bits .and .u32 (N : Int) 16777215 = ((N % 16777216 : Nat) : Int) := by
    have := u32_and_nat N 16777215 (by omega) (by omega)
    rw [show N &&& 16777215 = N % 16777216 from Nat.and_two_pow_sub_one_eq_mod N 24] at this
    exact bits_at this rfl rfl
  have m1 : Crc.more (st (Crc.more (st N) xs).toNat) ys = Crc.more (st N) (xs ++ ys) := by rw [Crc.more_append]; congr 1; simp [st]
  have m2 : Crc.more (st (Crc.sum xs).toNat) ys = Crc.sum (xs ++ ys) := by unfold Crc.sum; rw [Crc.more_append]; congr 1; simp [st]
  have m3 : Crc.more (st (N % 16777216)) xs = Crc.more (st N) xs := by congr 1; apply BitVec.eq_of_toNat_eq; simp [st]
  have l1 := (Crc.more (st N) xs).isLt
  have l2 := (Crc.sum xs).isLt
  have M1 := Lib.hid m1; have M2 := Lib.hid m2; have M3 := Lib.hid m3; clear m1 m2 m3
  have hla := hA.length
  have hlb := hB.length
  have LA := Lib.hid hla; have LB := Lib.hid hlb; clear hla hlb
  have tok1 : True := trivial
  have tok2 : True := trivial
  go_enter Tryd.func4, Tryd.ntmps4
  go_wp2_with fail
  refine (crc_awake _ hT).mono ?_; rintro e w1 ⟨rfl, hb1⟩
  have hA1 := hA.below hb1
  have hB1 := hB.below hb1
  have hT1 := hT.below hb1
  have O0 := OwnB.nil 5 w.heap.size w1
  go_wp2_with (first
    | (at_builtin; have _t := tok1; refine append_bytes 23 5 info8 Tryd.underlying23 rfl _ _ rfl w.heap.size (.slice none 0 0) [] 0 rfl rfl O0 a la ca xs rfl hA1 (by omega) hb1.size ?_; intro q1 c1 w2 hO1 hR1 hG1; clear tok1; simp only [Nat.zero_add, List.nil_append] at hO1 hR1 ⊢; have HB2 := hb1.grown hG1 hb1.size (fun k e => by cases e); have hB2 := hB.below HB2; have hA2 := hA.below HB2; have hT2 := hT.below HB2; clear hA1 hB1 hT1 O0)
    | (at_builtin; have _t := tok2; refine append_bytes 23 5 info8 Tryd.underlying23 rfl _ _ rfl w.heap.size (.slice q1 la c1) xs la LA.out rfl hO1 b lb cb ys rfl hB2 (by omega) HB2.size ?_; intro q2 c2 w3 hO2 hR2 hG2; clear tok2; have HB3 := HB2.grown hG2 HB2.size (fun k hk => (hO1.owns.lt k hk).1); have hB3 := hB.below HB3; have hA3 := hA.below HB3; have hT3 := hT.below HB3; clear hA2 hB2 hT2))
  have hlc : xs.length + ys.length = la + lb := by rw [LA.out, LB.out]
  refine (crc_more N hN _ _ _ xs _ hT3 hA3).mono ?_; rintro e w' ⟨rfl, rfl⟩
  go_wp2_with fail
  refine (crc_more (Crc.more (st N) xs).toNat (by omega) _ _ _ ys _ hT3 hB3).mono ?_; rintro e w' ⟨rfl, rfl⟩
  rw [M1.out]
  go_wp2_with fail
  refine (crc_more N hN _ _ _ (xs ++ ys) _ hT3 hR2).mono ?_; rintro e w' ⟨rfl, rfl⟩
  go_wp2_with fail
  refine (crc_sum _ _ _ xs _ hT3 hA3).mono ?_; rintro e w' ⟨rfl, rfl⟩
  go_wp2_with fail
  refine (crc_more (Crc.sum xs).toNat (by omega) _ _ _ ys _ hT3 hB3).mono ?_; rintro e w' ⟨rfl, rfl⟩
  rw [M2.out]
  go_wp2_with fail
  refine (crc_sum _ _ _ (xs ++ ys) _ hT3 hR2).mono ?_; rintro e w' ⟨rfl, rfl⟩
  go_wp2_with fail
  rw [show ((N : Int) % 16777216) = ((N % 16777216 : Nat) : Int) from by omega]
  refine (crc_more (N % 16777216) (by omega) _ _ _ xs _ hT3 hA3).mono ?_; rintro e w' ⟨rfl, rfl⟩
  rw [M3.out]
  go_wp2_with fail
  go_ret
  exact ⟨ret_bool (by simp; omega), HB3⟩
end Go.Proofs.YtgpjgldpgfoapaaDoor
