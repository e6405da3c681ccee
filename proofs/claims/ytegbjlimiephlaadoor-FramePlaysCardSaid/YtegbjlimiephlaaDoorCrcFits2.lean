/- The contracts of the reference's Fits. -/
import Derived.Test.YtegbjlimiephlaaDoorCrcFits
import Derived.Lib.Strings
namespace Go.Proofs.YtegbjlimiephlaaDoor
open Go.RowKit
set_option linter.unusedVariables false
set_option linter.unusedSimpArgs false

theorem extract_toList (t : ByteArray) (a b : Nat) (hb : b ≤ t.size) : (t.extract a b).data.toList = (t.data.toList.take b).drop a := by
  rw [Lib.extract_data]; rw [List.drop_take]
theorem ref_fits_long (t : ByteArray) (hn : 3 ≤ t.size) (w : World) (ht : t.size ≤ maxLen) (p0 p1 p2 : UInt8) (hp : Hid (Crc.put (Crc.sum (t.data.toList.take (t.size - 3))).toNat = [p0, p1, p2])) :
    Calls Tryd.prog 43 #[.string t] w fun e w' => e = .returned (.bool ([p0, p1, p2] == t.data.toList.drop (t.size - 3))) ∧ Below w.heap.size w w' := by
  have hm : t.size ≤ 9223372036854775807 := by unfold maxLen at ht; omega
  have hs := (Crc.sum (t.data.toList.take (t.size - 3))).isLt
  have i1 : (3 : Int) ≤ (t.size : Int) := by omega
  have i2 : (0 : Int) ≤ (t.size : Int) - 3 := by omega
  have i3 : (t.size : Int) - 3 ≤ (t.size : Int) := by omega
  have H1 : Hid ((t.extract 0 (t.size - 3)).data.toList = t.data.toList.take (t.size - 3)) := by rw [extract_toList _ _ _ (by omega)]; exact Lib.hid rfl
  have H2 : Hid ((t.extract 0 (t.size - 3)).size ≤ maxLen) := Lib.hid (by simp; omega)
  have hs1 : ∀ W, (Instr.slice 9 (.string t) none (some (.int .i64 ((t.size : Int) - 3))) none).run Tryd.prog W = .ok (.string (t.extract 0 (t.size - 3))) W := fun W => by
    have := run_slice_string_h W 9 t Tryd.underlying9 .i64 ((t.size : Int) - 3) i2 i3
    rw [this, show ((t.size : Int) - 3).toNat = t.size - 3 from by omega]
  have hs2 : ∀ W, (Instr.slice 9 (.string t) (some (.int .i64 ((t.size : Int) - 3))) none none).run Tryd.prog W = .ok (.string (t.extract (t.size - 3) t.size)) W := fun W => by
    have := run_slice_string_l W 9 t Tryd.underlying9 .i64 ((t.size : Int) - 3) i2 i3
    rw [this, show ((t.size : Int) - 3).toNat = t.size - 3 from by omega]
  have hw : IntKind.i64.wrap ((t.size : Int) - 3) = (t.size : Int) - 3 := IntWalk.i64_in _ (by omega)
  generalize hS : (Crc.sum (t.data.toList.take (t.size - 3))).toNat = S at *
  have HS := Lib.hid hS; clear hS
  go_enter Tryd.func43, Tryd.ntmps43
  go_wp2_with fail
  go_region_with (first | (go_at_call 30; refine (ref_sum03 _ _ H2.out).mono ?_; rintro e w' ⟨rfl, rfl⟩; rw [H1.out, HS.out]) | (go_at_call 29; refine (ref_put _ (by omega) _).mono ?_; rintro e w1 ⟨rfl, hb1⟩; rw [hp.out]))
  go_wp2
  go_ret
  refine ⟨ret_bool ?_, (by repeat (first | with_reducible exact Below.refl _ _ | with_reducible refine Below.trans ?_ (Below.mono hb9 (by (try simp) <;> omega)) | with_reducible refine Below.trans ?_ (Below.mono hb8 (by (try simp) <;> omega)) | with_reducible refine Below.trans ?_ (Below.mono hb7 (by (try simp) <;> omega)) | with_reducible refine Below.trans ?_ (Below.mono hb6 (by (try simp) <;> omega)) | with_reducible refine Below.trans ?_ (Below.mono hb5 (by (try simp) <;> omega)) | with_reducible refine Below.trans ?_ (Below.mono hb4 (by (try simp) <;> omega)) | with_reducible refine Below.trans ?_ (Below.mono hb3 (by (try simp) <;> omega)) | with_reducible refine Below.trans ?_ (Below.mono hb2 (by (try simp) <;> omega)) | with_reducible refine Below.trans ?_ (Below.mono hb1 (by (try simp) <;> omega)) | with_reducible refine Below.drew ?_ | with_reducible refine Below.alloc ?_ (by (try simp) <;> omega) _ | with_reducible refine Below.setCell ?_ (by (try simp) <;> omega) _))⟩
  rw [ByteArray.toList_eq, extract_toList _ _ _ (Nat.le_refl _), List.take_of_length_le (by simp)]

theorem ref_fits_short (t : ByteArray) (hn : t.size < 3) (w : World) :
    Calls Tryd.prog 43 #[.string t] w fun e w' => e = .returned (.bool false) ∧ w = w' := by
  go_enter Tryd.func43, Tryd.ntmps43
  go_wp2_with fail
  go_ret
  exact ⟨rfl, rfl⟩

/-- whether bytes end in their sum -/
def Crc.fits (l : List UInt8) : Bool := if l.length < 3 then false else Crc.put (Crc.sum (l.take (l.length - 3))).toNat == l.drop (l.length - 3)
theorem crc_fits (a : Option Addr) (len cap : Nat) (bs : List UInt8) (w : World) (hT : Tab w) (hrow : RowB w a len cap bs) :
    Calls Tryd.prog 42 #[.slice a len cap] w fun e w' => e = .returned (.bool (Crc.fits bs)) ∧ Below w.heap.size w w' := by
  have hl := hrow.length
  by_cases hlen : len < 3
  · refine (crc_fits_short a len cap w hlen).mono ?_
    rintro e w' ⟨rfl, rfl⟩
    exact ⟨ret_bool (by unfold Crc.fits; rw [if_pos (by omega)]), Below.refl _ _⟩
  · rcases hrow.at_ with h0 | ⟨b, off, rfl, hb, hc⟩
    · omega
    obtain ⟨n, rfl⟩ : ∃ n, len = n + 3 := ⟨len - 3, by omega⟩
    have hrow' : RowB w (some ⟨b, off, none⟩) n cap (bs.take n) := ⟨by simp; omega, by have := hrow.small; omega, by have := hrow.le; omega, .inr ⟨b, off, rfl, hb, fun i hi => by
      rw [hc i (by omega)]; simp [List.getD, hi]⟩, fun e => by cases e⟩
    have hm : n + 3 ≤ 9223372036854775807 := by have := hrow.small; unfold maxLen at this; omega
    have c0 := hc n (by omega)
    have c1 := hc (n + 1) (by omega)
    have c2 := hc (n + 2) (by omega)
    refine (crc_fits_core b off n cap (bs.take n) _ _ _ _ _ _ w hm hrow.le hT hrow' (Lib.hid (show Crc.put (Crc.sum (bs.take n)).toNat = [_, _, _] from rfl)) hb c0 (by simpa [Nat.add_assoc] using c1) (by simpa [Nat.add_assoc] using c2)).mono ?_
    rintro e w' ⟨rfl, hB⟩
    refine ⟨ret_bool ?_, hB⟩
    unfold Crc.fits
    rw [if_neg (by omega), show bs.length - 3 = n from by omega]
    have hd : bs.drop n = [bs.getD n 0, bs.getD (n + 1) 0, bs.getD (n + 2) 0] := by
      apply List.ext_getElem
      · simp; omega
      · intro i h1 h2
        simp at h2
        have : i = 0 ∨ i = 1 ∨ i = 2 := by omega
        rcases this with rfl | rfl | rfl <;> simp [List.getD, List.getElem?_eq_getElem, hl]
    rw [hd]
    unfold Crc.put
    have e8 : ∀ x y : UInt8, (((x.toNat : Int)) == (y.toNat : Int)) = (y == x) := fun x y => by
      rw [Bool.eq_iff_iff, beq_iff_eq, beq_iff_eq]
      exact ⟨fun h => (UInt8.toNat_inj.1 (by omega)).symm, fun h => by rw [h]⟩
    rw [e8, e8, e8]
    simp [Bool.and_assoc]
theorem ref_fits (t : ByteArray) (w : World) (ht : t.size ≤ maxLen) :
    Calls Tryd.prog 43 #[.string t] w fun e w' => e = .returned (.bool (Crc.fits t.data.toList)) ∧ Below w.heap.size w w' := by
  have hl : t.data.toList.length = t.size := by simp
  by_cases hlen : t.size < 3
  · refine (ref_fits_short t hlen w).mono ?_
    rintro e w' ⟨rfl, rfl⟩
    exact ⟨ret_bool (by unfold Crc.fits; rw [if_pos (by omega)]), Below.refl _ _⟩
  · refine (ref_fits_long t (by omega) w ht _ _ _ (Lib.hid (show Crc.put (Crc.sum (t.data.toList.take (t.size - 3))).toNat = [_, _, _] from rfl))).mono ?_
    rintro e w' ⟨rfl, hB⟩
    refine ⟨ret_bool ?_, hB⟩
    unfold Crc.fits
    rw [if_neg (by omega), hl]
    rfl
end Go.Proofs.YtegbjlimiephlaaDoor
