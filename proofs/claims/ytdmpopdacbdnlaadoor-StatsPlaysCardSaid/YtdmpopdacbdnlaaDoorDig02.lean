/- lookoutref02.Digits, strconv.FormatInt at base 10: contracts. -/
import Derived.Test.YtdmpopdacbdnlaaDoorRecDig
namespace Go.Proofs.YtdmpopdacbdnlaaDoor
open Go.RowKit
set_option linter.unusedVariables false
set_option linter.unusedSimpArgs false
set_option maxHeartbeats 4000000
set_option maxRecDepth 20000
theorem itoa_pos {n : Int} (h : 0 ≤ n) : Lib.itoa n = Lib.decDigits n.toNat := by unfold Lib.itoa; rw [if_neg (by omega)]
theorem itoa_neg {n : Int} (h : n < 0) : Lib.itoa n = 45 :: Lib.decDigits (-n).toNat := by
  unfold Lib.itoa; rw [if_pos h]
  congr 2
  omega
theorem itoa_le (n : Int) (h0 : -9223372036854775808 ≤ n) (h1 : n ≤ 9223372036854775807) : (Lib.itoa n).length ≤ 21 := by
  by_cases h : 0 ≤ n
  · rw [itoa_pos h]; have := dec_le n.toNat (by omega); omega
  · rw [itoa_neg (by omega), List.length_cons]; have := dec_le (-n).toNat (by omega); omega
theorem fmti_any (n : Int) (h0 : -9223372036854775808 ≤ n) (h1 : n ≤ 9223372036854775807) (w : World) (hT : PowT w) :
    Calls Tryd.prog 76 #[.int .i64 n, .int .i64 10] w fun e w' => e = .returned (.string ⟨(Lib.itoa n).toArray⟩) ∧ Below w.heap.size w w' := by
  refine (Tryd.strconv_FormatInt_10 n h0 h1 w hT).mono ?_
  rintro e w' ⟨rfl, k, os, rfl⟩
  exact ⟨rfl, below_grow w k os⟩
theorem dig02_loop (n : Int) (h0 : -9223372036854775808 ≤ n) (h1 : n ≤ 9223372036854775807) (w : World) :
    Calls Tryd.prog 77 #[.int .i64 n] w fun e w' => e = .returned (.string ⟨(Lib.itoa n).toArray⟩) ∧ Below w.heap.size w w' := by
  have main : ∀ (u : Nat) (neg : Bool), (neg = false → n = (u : Int)) → (neg = true → n < 0 ∧ (u : Int) = -n) → (neg = false → Lib.itoa n = Lib.decDigits u) → (neg = true → Lib.itoa n = 45 :: Lib.decDigits u) → Calls Tryd.prog 77 #[.int .i64 n] w fun e w' => e = .returned (.string ⟨(Lib.itoa n).toArray⟩) ∧ Below w.heap.size w w' := by
    intro u neg hp hm i1 i2
    have hu : u ≤ 9223372036854775808 := by
      cases neg with
      | false => have := hp rfl; omega
      | true => have := hm rfl; omega
    have hle := dec_le u (by omega)
    have hlu : (⟨#[]⟩ : ByteArray) = ⟨([] : List UInt8).toArray⟩ := rfl
    generalize hdd : Lib.decDigits u = dd at *
    replace hdd := Lib.hid hdd
    replace i1 := Lib.hid i1
    replace i2 := Lib.hid i2
    cases neg with
    | false =>
      have hn := hp rfl
      have hi := i1.out rfl
      rw [hi]
      subst hn
      replace hi := Lib.hid hi
      clear hp hm i1 i2
      have hw0 : IntKind.u64.wrap (u : Int) = (u : Int) := IntWalk.u64_in _ (by omega)
      have hz : ¬ ((u : Int) < 0) := by omega
      go_enter Tryd.func77, Tryd.ntmps77
      go_wp2_with fail
      go_loopw [3, 4] (fun n s wr => ∃ (m : Nat) (tl : List UInt8), m ≤ u ∧ n = .int .u64 (m : Int) ∧ s = .string ⟨tl.toArray⟩ ∧ Hid (Lib.decDigits m ++ tl = dd) ∧ Below w.heap.size w wr) (fun n s wr => (intOf n).toNat)
      case atStart => exact ⟨u, [], Nat.le_refl _, rfl, rfl, Lib.hid (by rw [hdd.out, List.append_nil]), Below.refl _ _⟩
      case round =>
        obtain ⟨m, tl, hm, rfl, rfl, hd, hB⟩ := hrel; have zr := hB.size; have htl : tl.length ≤ 20 := (by have := congrArg List.length hd.out; simp only [List.length_append] at this; omega); have hs1 : (⟨tl.toArray⟩ : ByteArray).size = tl.length := (by simp [ByteArray.size])
        by_cases h10 : 10 ≤ m
        · have h10' : (10 : Int) ≤ (m : Int) := by omega
          have hd2 : Lib.decDigits (m / 10) ++ (digB m :: tl) = dd := by have := hd.out; rw [dec_step m h10, List.append_assoc] at this; exact this
          have htl2 : tl.length + 1 ≤ 20 := by
            have := congrArg List.length hd2
            simp only [List.length_append, List.length_cons] at this
            omega
          replace hd2 := Lib.hid hd2
          have cv := Oct.conv_one wr (digB m) (48 + (m : Int) % 10) (dig_nat m)
          have hw5 : IntKind.u64.wrap (48 + (m : Int) % 10) = 48 + (m : Int) % 10 := IntWalk.u64_in _ (by omega)
          have hw6 : IntKind.u8.wrap (48 + (m : Int) % 10) = 48 + (m : Int) % 10 := by
            rw [IntKind.wrap_u8]; omega
          have htd : (m : Int).tdiv 10 = ((m / 10 : Nat) : Int) := by rw [Int.tdiv_eq_ediv_of_nonneg (by omega)]; omega
          have htq : (m : Int) / 10 = ((m / 10 : Nat) : Int) := by omega
          have hwq : IntKind.u64.wrap ((m / 10 : Nat) : Int) = ((m / 10 : Nat) : Int) := IntWalk.u64_in _ (by omega)
          have htm : (m : Int).tmod 10 = (m : Int) % 10 := Int.tmod_eq_emod_of_nonneg (by omega)
          have hwm : IntKind.u64.wrap ((m : Int) % 10) = (m : Int) % 10 := IntWalk.u64_in _ (by omega)
          have hm1 : m / 10 < m := by omega
          have hba := Oct.ba_cons (digB m) tl
          generalize hmq : m / 10 = mq at *
          replace hmq := Lib.hid hmq
          clear htq
          go_wp2_with fail
          go_roundw
          case rel => exact ⟨mq, digB m :: tl, by omega, by first | rfl | (go_num; done) | (rw [hwq]; done) | (congr 1; omega), rfl, hd2, (by repeat (first | with_reducible exact hB | with_reducible refine Below.alloc ?_ (by have := hB.size; (try simp) <;> omega) _))⟩
          case measure => simp [intOf] <;> omega
        · have hd2 : digB m :: tl = dd := by have := hd.out; rw [dec_small m (by omega)] at this; exact this
          have cv := Oct.conv_one wr (digB m) (48 + (m : Int)) (by have := dig_nat m; omega)
          have hw5 : IntKind.u64.wrap (48 + (m : Int)) = 48 + (m : Int) := IntWalk.u64_in _ (by omega)
          have hw6 : IntKind.u8.wrap (48 + (m : Int)) = 48 + (m : Int) := by
            rw [IntKind.wrap_u8]; omega
          have hba := Oct.ba_cons (digB m) tl
          rw [hd2] at hba
          have hlt : ¬ (10 ≤ m) := h10
          have hlt' : ¬ ((10 : Int) ≤ (m : Int)) := by omega
          replace hd2 := Lib.hid hd2
          go_wp2_with fail
          go_ret
          exact ⟨rfl, (by repeat (first | with_reducible exact hB | with_reducible refine Below.alloc ?_ (by have := hB.size; (try simp) <;> omega) _))⟩
    | true =>
      obtain ⟨hn, hv⟩ := hm rfl
      have hi := i2.out rfl
      rw [hi]
      replace hi := Lib.hid hi
      clear hp hm i1 i2
      have hw1 : IntKind.i64.wrap (n + 1) = n + 1 := IntWalk.i64_in _ (by omega)
      have hw2 : IntKind.i64.wrap (-(n + 1)) = -(n + 1) := IntWalk.i64_in _ (by omega)
      have hw3 : IntKind.u64.wrap (-(n + 1)) = -(n + 1) := IntWalk.u64_in _ (by omega)
      have hw4 : IntKind.u64.wrap (-(n + 1) + 1) = (u : Int) := by rw [IntWalk.u64_in _ (by omega)]; omega
      go_enter Tryd.func77, Tryd.ntmps77
      go_wp2_with fail
      go_loopw [3, 4] (fun n s wr => ∃ (m : Nat) (tl : List UInt8), m ≤ u ∧ n = .int .u64 (m : Int) ∧ s = .string ⟨tl.toArray⟩ ∧ Hid (Lib.decDigits m ++ tl = dd) ∧ Below w.heap.size w wr) (fun n s wr => (intOf n).toNat)
      case atStart => exact ⟨u, [], Nat.le_refl _, by rw [hv], rfl, Lib.hid (by rw [hdd.out, List.append_nil]), Below.refl _ _⟩
      case round =>
        obtain ⟨m, tl, hm, rfl, rfl, hd, hB⟩ := hrel; have zr := hB.size; have htl : tl.length ≤ 20 := (by have := congrArg List.length hd.out; simp only [List.length_append] at this; omega); have hs1 : (⟨tl.toArray⟩ : ByteArray).size = tl.length := (by simp [ByteArray.size])
        by_cases h10 : 10 ≤ m
        · have h10' : (10 : Int) ≤ (m : Int) := by omega
          have hd2 : Lib.decDigits (m / 10) ++ (digB m :: tl) = dd := by have := hd.out; rw [dec_step m h10, List.append_assoc] at this; exact this
          have htl2 : tl.length + 1 ≤ 20 := by
            have := congrArg List.length hd2
            simp only [List.length_append, List.length_cons] at this
            omega
          replace hd2 := Lib.hid hd2
          have cv := Oct.conv_one wr (digB m) (48 + (m : Int) % 10) (dig_nat m)
          have hw5 : IntKind.u64.wrap (48 + (m : Int) % 10) = 48 + (m : Int) % 10 := IntWalk.u64_in _ (by omega)
          have hw6 : IntKind.u8.wrap (48 + (m : Int) % 10) = 48 + (m : Int) % 10 := by
            rw [IntKind.wrap_u8]; omega
          have htd : (m : Int).tdiv 10 = ((m / 10 : Nat) : Int) := by rw [Int.tdiv_eq_ediv_of_nonneg (by omega)]; omega
          have htq : (m : Int) / 10 = ((m / 10 : Nat) : Int) := by omega
          have hwq : IntKind.u64.wrap ((m / 10 : Nat) : Int) = ((m / 10 : Nat) : Int) := IntWalk.u64_in _ (by omega)
          have htm : (m : Int).tmod 10 = (m : Int) % 10 := Int.tmod_eq_emod_of_nonneg (by omega)
          have hwm : IntKind.u64.wrap ((m : Int) % 10) = (m : Int) % 10 := IntWalk.u64_in _ (by omega)
          have hm1 : m / 10 < m := by omega
          have hba := Oct.ba_cons (digB m) tl
          generalize hmq : m / 10 = mq at *
          replace hmq := Lib.hid hmq
          clear htq
          go_wp2_with fail
          go_roundw
          case rel => exact ⟨mq, digB m :: tl, by omega, by first | rfl | (go_num; done) | (rw [hwq]; done) | (congr 1; omega), rfl, hd2, (by repeat (first | with_reducible exact hB | with_reducible refine Below.alloc ?_ (by have := hB.size; (try simp) <;> omega) _))⟩
          case measure => simp [intOf] <;> omega
        · have hd2 : digB m :: tl = dd := by have := hd.out; rw [dec_small m (by omega)] at this; exact this
          have cv := Oct.conv_one wr (digB m) (48 + (m : Int)) (by have := dig_nat m; omega)
          have hw5 : IntKind.u64.wrap (48 + (m : Int)) = 48 + (m : Int) := IntWalk.u64_in _ (by omega)
          have hw6 : IntKind.u8.wrap (48 + (m : Int)) = 48 + (m : Int) := by
            rw [IntKind.wrap_u8]; omega
          have hba := Oct.ba_cons (digB m) tl
          rw [hd2] at hba
          have hlt : ¬ (10 ≤ m) := h10
          have hbb := Oct.ba_cons 45 dd
          have hsd : (⟨dd.toArray⟩ : ByteArray).size = dd.length := (by simp [ByteArray.size])
          have hlt' : ¬ ((10 : Int) ≤ (m : Int)) := by omega
          replace hd2 := Lib.hid hd2
          go_wp2_with fail
          go_ret
          exact ⟨rfl, (by repeat (first | with_reducible exact hB | with_reducible refine Below.alloc ?_ (by have := hB.size; (try simp) <;> omega) _))⟩
  by_cases h : 0 ≤ n
  · exact main n.toNat false (fun _ => by omega) (fun e => by cases e) (fun _ => itoa_pos h) (fun e => by cases e)
  · exact main (-n).toNat true (fun e => by cases e) (fun _ => ⟨by omega, by omega⟩) (fun e => by cases e) (fun _ => itoa_neg (by omega))
end Go.Proofs.YtdmpopdacbdnlaaDoor
