/- lookoutref01.Take: contract. -/
import Derived.Test.YtdondjodonmebaaOctRNum
import Derived.Deep.RegionWith
import Derived.Deep.QuietTactic
namespace Go.Proofs.Ytdondjodonmebaa
open Go.RowKit
set_option linter.unusedVariables false
set_option linter.unusedSimpArgs false
set_option maxHeartbeats 2000000
set_option maxRecDepth 20000
theorem form_iff (bs : List UInt8) (k : Nat) (hx : (bs.getD 0 0).toNat = 247 + k) (hk : 1 ≤ k) (hk8 : k ≤ 8) (hl : k + 1 ≤ bs.length) : (enc (valOf ((bs.drop 1).take k)) = bs.take (k + 1)) ↔ ¬ (valOf ((bs.drop 1).take k) < 248 ∨ bs.getD 1 0 = 0) := by
  have hT : takeOf bs = if valOf ((bs.drop 1).take k) < 248 ∨ bs.getD 1 0 = 0 then (0, 0, 11) else (valOf ((bs.drop 1).take k), 1 + k, 0) := by
    unfold takeOf; rw [if_neg (by omega), hx, if_neg (by omega), if_neg (by omega), Nat.add_sub_cancel_left]
  have hvl : valOf ((bs.drop 1).take k) < 18446744073709551616 := by
    have h1 := valOf_lt ((bs.drop 1).take k)
    have h2 : 256 ^ ((bs.drop 1).take k).length ≤ 256 ^ 8 := Nat.pow_le_pow_right (by omega) (by rw [List.length_take]; omega)
    exact Nat.lt_of_lt_of_le h1 h2
  constructor
  · intro he hc
    rw [if_pos hc] at hT
    have h3 := take_enc hvl (bs.drop (k + 1))
    rw [he, List.take_append_drop, hT] at h3
    have := congrArg (fun t : Nat × Nat × Int => t.2.2) h3
    simp at this
  · intro hc
    rw [if_neg hc] at hT
    have h3 := enc_take bs (by rw [hT])
    rw [hT] at h3
    rw [h3, Nat.add_comm 1 k]
theorem ba_get (bs : List UInt8) (i : Nat) (h : i < (⟨bs.toArray⟩ : ByteArray).size) : (⟨bs.toArray⟩ : ByteArray)[i]'h = bs.getD i 0 := by
  have h2 : i < bs.toArray.size := h
  have h' : i < bs.length := by simpa using h2
  show bs.toArray[i]'_ = _
  simp [List.getD, h']
theorem ba_take (bs : List UInt8) (n : Nat) : (⟨bs.toArray⟩ : ByteArray).extract 0 n = ⟨(bs.take n).toArray⟩ := by
  apply ByteArray.ext
  simp [ByteArray.data_extract]
theorem rtake_any (bs : List UInt8) (hs : bs.length ≤ 1000000000) (w : World) :
    Calls Try.prog 18 #[.string ⟨bs.toArray⟩] w fun e w' => e = .returned (takeV bs) ∧ Below w.heap.size w w' := by
  by_cases h0 : bs.length = 0
  · have hb := List.eq_nil_of_length_eq_zero h0
    subst hb
    have ht : takeV [] = .tuple #[.int .u64 0, .int .i64 0, .int .i64 10] := by rfl
    rw [ht]
    go_enter Try.func18, Try.ntmps18
    go_wp2_with fail
    go_ret3
    exact ⟨rfl, Below.refl _ _⟩
  · have hx := (bs.getD 0 0).toNat_lt
    have hE : bs.isEmpty = false := by cases bs with | nil => simp at h0 | cons d r => rfl
    have hz : 0 < (⟨bs.toArray⟩ : ByteArray).size := by show 0 < bs.toArray.size; simp; omega
    have i0 : (⟨bs.toArray⟩ : ByteArray)[0]'hz = bs.getD 0 0 := ba_get bs 0 hz
    have hT : takeOf bs = if (bs.getD 0 0).toNat < 248 then ((bs.getD 0 0).toNat, 1, 0) else if bs.length - 1 < (bs.getD 0 0).toNat - 247 then (0, 0, 10) else if valOf ((bs.drop 1).take ((bs.getD 0 0).toNat - 247)) < 248 ∨ bs.getD 1 0 = 0 then (0, 0, 11) else (valOf ((bs.drop 1).take ((bs.getD 0 0).toNat - 247)), 1 + ((bs.getD 0 0).toNat - 247), 0) := by
      unfold takeOf; rw [if_neg (by omega)]
    have FI := form_iff bs
    generalize bs.getD 0 0 = b0 at *
    generalize hx0 : b0.toNat = x at *
    by_cases hx1 : x < 248
    · rw [if_pos hx1] at hT
      have hV : takeV bs = .tuple #[.int .u64 x, .int .i64 1, .int .i64 0] := by unfold takeV; rw [hT]; rfl
      rw [hV]
      clear hV hT FI
      go_enter Try.func18, Try.ntmps18
      go_wp2_with fail
      go_ret3
      exact ⟨rfl, Below.refl _ _⟩
    rw [if_neg hx1] at hT
    obtain ⟨k, rfl⟩ : ∃ k, x = 247 + k := ⟨x - 247, by omega⟩
    rw [Nat.add_sub_cancel_left] at hT
    have hk8 : k ≤ 8 := by omega
    have hk1 : 1 ≤ k := by omega
    have e5 : (247 + (k : Int) - 247) = (k : Int) := by omega
    by_cases hsh : bs.length - 1 < k
    · rw [if_pos hsh] at hT
      have hV : takeV bs = .tuple #[.int .u64 0, .int .i64 0, .int .i64 10] := by unfold takeV; rw [hT]; rfl
      rw [hV]
      have hsh' : (bs.length : Int) < (k : Int) + 1 := by omega
      clear hV hT FI
      go_enter Try.func18, Try.ntmps18
      go_wp2_with fail
      go_ret3
      exact ⟨rfl, Below.refl _ _⟩
    rw [if_neg hsh] at hT
    have FI2 := Lib.hid (FI k rfl hk1 hk8 (by omega))
    replace hT := Lib.hid hT
    have hsh' : (k : Int) + 1 ≤ (bs.length : Int) := by omega
    clear FI
    go_enter Try.func18, Try.ntmps18
    go_wp2_with fail
    go_loop [6, 7] (fun u i => ∃ j m : Nat, m = j + 1 ∧ j ≤ k ∧ i = .int .i64 (m : Int) ∧ u = .int .u64 (valOf ((bs.drop 1).take j) : Nat)) (fun u i => k + 1 - (intOf i).toNat)
    case atStart => exact ⟨0, 1, rfl, Nat.zero_le _, rfl, rfl⟩
    case round =>
      obtain ⟨j, m, hm, hj, rfl, rfl⟩ := hrel
      by_cases hlt : j < k
      · have hml : m < bs.length := by omega
        have hmz : m < (⟨bs.toArray⟩ : ByteArray).size := by show m < bs.toArray.size; simpa using hml
        have im := ba_get bs m hmz
        have hd : (bs.drop 1).take (j + 1) = (bs.drop 1).take j ++ [bs.getD m 0] := by
          rw [List.take_succ_eq_append_getElem (by rw [List.length_drop]; omega)]
          have hl1 : j + 1 < bs.length := by omega
          subst hm
          simp [List.getD, Nat.add_comm 1 j, hl1]
        have hv := valOf_snoc ((bs.drop 1).take j) (bs.getD m 0)
        rw [← hd] at hv
        have hlv := valOf_lt ((bs.drop 1).take j)
        have hpw : 256 ^ ((bs.drop 1).take j).length ≤ 256 ^ 7 := Nat.pow_le_pow_right (by omega) (by rw [List.length_take]; omega)
        have hyb := (bs.getD m 0).toNat_lt
        generalize bs.getD m 0 = y at *
        generalize valOf ((bs.drop 1).take j) = V at *
        generalize hyn : y.toNat = yn at *
        replace hv := Lib.hid hv
        have hV7 : V < 72057594037927936 := Nat.lt_of_lt_of_le hlv hpw
        have hmk : (m : Int) ≤ k := by omega
        have hm0 : (0 : Int) ≤ m := by omega
        have hml' : (m : Int) < (bs.length : Int) := by omega
        replace hm := Lib.hid hm
        clear hlv hpw hd
        go_wp2_with fail
        go_round
        case rel => exact ⟨j + 1, m + 1, by have := hm.out; omega, by omega, by go_num, by rw [hv.out]; simp⟩
        case measure => simp [intOf]; omega
      · obtain rfl : j = k := by omega
        have hlv := valOf_lt ((bs.drop 1).take j)
        have hpw : 256 ^ ((bs.drop 1).take j).length ≤ 256 ^ 8 := Nat.pow_le_pow_right (by omega) (by rw [List.length_take]; omega)
        generalize valOf ((bs.drop 1).take j) = V at *
        have hV8 : V < 18446744073709551616 := Nat.lt_of_lt_of_le hlv hpw
        clear hlv hpw
        have hmk : (j : Int) < m := by omega
        replace hm := Lib.hid hm
        have wj : IntKind.i64.wrap ((j : Int) + 1) = (j : Int) + 1 := IntWalk.i64_in _ (by omega)
        have wj0 : (0 : Int) ≤ (j : Int) + 1 := by omega
        have wj1 : (j : Int) + 1 ≤ (bs.length : Int) := by omega
        have hN := Lib.hid (rnum_any V hV8 w.drew)
        have hs1 : ∀ W, (Instr.slice 9 (.string ⟨bs.toArray⟩) none (some (.int .i64 ((j : Int) + 1))) none).run Try.prog W = .ok (.string ⟨(bs.take (j + 1)).toArray⟩) W := fun W => by
          have := run_slice_string_h W 9 ⟨bs.toArray⟩ Try.underlying9 .i64 ((j : Int) + 1) wj0 (by show (j : Int) + 1 ≤ (bs.toArray.size : Int); simpa using wj1)
          rw [this, show ((j : Int) + 1).toNat = j + 1 from by omega, ba_take]
        by_cases hc : V < 248 ∨ bs.getD 1 0 = 0
        · have hne : ¬ enc V = bs.take (j + 1) := fun e => (FI2.out.1 e) hc
          have hV : takeV bs = .tuple #[.int .u64 0, .int .i64 0, .int .i64 11] := by unfold takeV; rw [hT.out, if_pos hc]; rfl
          replace hV := Lib.hid hV
          clear hc FI2 hT
          have hbq : (enc V == bs.take (j + 1)) = false := beq_eq_false_iff_ne.2 hne
          clear hne
          generalize bs.take (j + 1) = p at *
          generalize enc V = q at *
          go_wp2_with fail
          go_region_with (go_at_call 16; refine hN.out.mono ?_; rintro e w1 ⟨rfl, hb1⟩)
          all_goals go_wp2_with fail
          all_goals (go_ret3; exact ⟨by rw [hV.out]; rfl, (Below.refl _ _).drew.trans hb1⟩)
        · have hne : enc V = bs.take (j + 1) := FI2.out.2 hc
          have hV : takeV bs = .tuple #[.int .u64 V, .int .i64 ((j : Int) + 1), .int .i64 0] := by
            unfold takeV; rw [hT.out, if_neg hc]; simp; omega
          replace hV := Lib.hid hV
          clear hc FI2 hT
          rw [hne] at hN
          clear hne
          generalize bs.take (j + 1) = p at *
          go_wp2_with fail
          go_region_with (go_at_call 16; refine hN.out.mono ?_; rintro e w1 ⟨rfl, hb1⟩)
          all_goals go_wp2_with fail
          all_goals (go_ret3; exact ⟨by rw [hV.out]; rfl, (Below.refl _ _).drew.trans hb1⟩)
end Go.Proofs.Ytdondjodonmebaa
