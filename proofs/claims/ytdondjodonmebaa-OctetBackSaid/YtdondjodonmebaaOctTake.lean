/- octet.Take: contract. -/
import Derived.Test.YtdondjodonmebaaOctMath
import Derived.Test.YtdondjodonmebaaOctBits
import Derived.Laws.BitsAllLaws
namespace Go.Proofs.Ytdondjodonmebaa
open Go.RowKit
set_option linter.unusedVariables false
set_option linter.unusedSimpArgs false
set_option maxHeartbeats 2000000
set_option maxRecDepth 20000
def valOf (bs : List UInt8) : Nat := bs.foldl (fun a b => a * 256 + b.toNat) 0
theorem valOf_snoc (bs : List UInt8) (b : UInt8) : valOf (bs ++ [b]) = valOf bs * 256 + b.toNat := by simp [valOf]
theorem valOf_lt (bs : List UInt8) : valOf bs < 256 ^ bs.length := by
  have : ∀ (bs : List UInt8) (a n : Nat), a < 256 ^ n → bs.foldl (fun a b => a * 256 + b.toNat) a < 256 ^ (n + bs.length) := by
    intro bs
    induction bs with
    | nil => intro a n h; simpa using h
    | cons b bs ih =>
      intro a n h
      rw [List.foldl_cons, List.length_cons, show n + (bs.length + 1) = (n + 1) + bs.length from by omega]
      refine ih _ _ ?_
      have := b.toNat_lt
      rw [Nat.pow_succ]; omega
  simpa [valOf] using this bs 0 0 (by simp)
/-- What any bytes begin with: the number, its length, the error. -/
def takeOf (bs : List UInt8) : Nat × Nat × Int :=
  if bs.length = 0 then (0, 0, 10)
  else if (bs.getD 0 0).toNat < 248 then ((bs.getD 0 0).toNat, 1, 0)
  else if bs.length - 1 < (bs.getD 0 0).toNat - 247 then (0, 0, 10)
  else if valOf ((bs.drop 1).take ((bs.getD 0 0).toNat - 247)) < 248 ∨ bs.getD 1 0 = 0 then (0, 0, 11)
  else (valOf ((bs.drop 1).take ((bs.getD 0 0).toNat - 247)), 1 + ((bs.getD 0 0).toNat - 247), 0)
def takeV (bs : List UInt8) : Value := .tuple #[.int .u64 ((takeOf bs).1 : Int), .int .i64 ((takeOf bs).2.1 : Int), .int .i64 (takeOf bs).2.2]

theorem take_any (a : Option Addr) (len cap : Nat) (bs : List UInt8) (w : World) (h : RowB w a len cap bs) :
    Calls Try.prog 14 #[.slice a len cap] w fun e w' => e = .returned (takeV bs) ∧ w = w' := by
  have LL := Lib.hid h.length
  have hm : len ≤ 9223372036854775807 := by have := h.small; unfold maxLen at this; omega
  by_cases h0 : len = 0
  · have ht : takeV bs = .tuple #[.int .u64 0, .int .i64 0, .int .i64 10] := by unfold takeV takeOf; rw [if_pos (by have := LL.out; omega)]; rfl
    rw [ht]
    subst h0
    go_enter Try.func14, Try.ntmps14
    go_wp2_with fail
    go_ret3
    exact ⟨rfl, rfl⟩
  · rcases h.at_ with e0 | ⟨b, off, rfl, hlb, hc⟩
    · omega
    have c0 := hc 0 (by omega)
    rw [Nat.add_zero] at c0
    have hx := (bs.getD 0 0).toNat_lt
    have hT : takeOf bs = if (bs.getD 0 0).toNat < 248 then ((bs.getD 0 0).toNat, 1, 0) else if len - 1 < (bs.getD 0 0).toNat - 247 then (0, 0, 10) else if valOf ((bs.drop 1).take ((bs.getD 0 0).toNat - 247)) < 248 ∨ bs.getD 1 0 = 0 then (0, 0, 11) else (valOf ((bs.drop 1).take ((bs.getD 0 0).toNat - 247)), 1 + ((bs.getD 0 0).toNat - 247), 0) := by
      have := LL.out
      unfold takeOf; rw [if_neg (by omega), this]
    generalize (bs.getD 0 0).toNat = x at *
    by_cases hx1 : x < 248
    · rw [if_pos hx1] at hT
      have hV : takeV bs = .tuple #[.int .u64 x, .int .i64 1, .int .i64 0] := by unfold takeV; rw [hT]; rfl
      rw [hV]
      clear hV hT hc
      go_enter Try.func14, Try.ntmps14
      go_wp2_with fail
      go_ret3
      exact ⟨rfl, rfl⟩
    rw [if_neg hx1] at hT
    obtain ⟨k, rfl⟩ : ∃ k, x = 247 + k := ⟨x - 247, by omega⟩
    rw [Nat.add_sub_cancel_left] at hT
    have hk8 : k ≤ 8 := by omega
    have hk1 : 1 ≤ k := by omega
    by_cases hs : len - 1 < k
    · rw [if_pos hs] at hT
      have hV : takeV bs = .tuple #[.int .u64 0, .int .i64 0, .int .i64 10] := by unfold takeV; rw [hT]; rfl
      rw [hV]
      clear hV hT hc
      go_enter Try.func14, Try.ntmps14
      go_wp2_with fail
      go_ret3
      exact ⟨rfl, rfl⟩
    rw [if_neg hs] at hT
    replace hT := Lib.hid hT
    have c1 := hc 1 (by omega)
    have hc1 := fun i (hi : i < k) => hc (1 + i) (by omega)
    replace hc1 := Lib.hid hc1
    have e5 : (247 + (k : Int) - 247) = (k : Int) := by omega
    clear hc
    go_enter Try.func14, Try.ntmps14
    go_wp2_with fail
    go_loop [6, 30] (fun u i => ∃ j : Nat, j ≤ k ∧ i = .int .i64 j ∧ u = .int .u64 (valOf ((bs.drop 1).take j) : Nat)) (fun u i => k - (intOf i).toNat)
    case atStart => exact ⟨0, Nat.zero_le _, rfl, rfl⟩
    case round =>
      obtain ⟨j, hj, rfl, rfl⟩ := hrel
      by_cases hlt : j < k
      · have cj := hc1.out j hlt
        have hd : (bs.drop 1).take (j + 1) = (bs.drop 1).take j ++ [bs.getD (1 + j) 0] := by
          have := LL.out
          rw [List.take_succ_eq_append_getElem (by rw [List.length_drop]; omega)]
          have hl1 : j + 1 < bs.length := by omega
          simp [List.getD, Nat.add_comm 1 j, hl1]
        have hv := valOf_snoc ((bs.drop 1).take j) (bs.getD (1 + j) 0)
        rw [← hd] at hv
        have hlv := valOf_lt ((bs.drop 1).take j)
        have hpw : 256 ^ ((bs.drop 1).take j).length ≤ 256 ^ 7 := Nat.pow_le_pow_right (by omega) (by rw [List.length_take]; omega)
        have hyb := (bs.getD (1 + j) 0).toNat_lt
        generalize (bs.getD (1 + j) 0).toNat = y at *
        generalize valOf ((bs.drop 1).take j) = V at *
        replace hv := Lib.hid hv
        have hV7 : V < 72057594037927936 := Nat.lt_of_lt_of_le hlv hpw
        clear hlv hpw hd
        have hor : bits .or .u64 ((V : Int) * 256) (y : Int) = ((V * 256 + y : Nat) : Int) := by
          have h1 := u64_or_nat (V * 256) y (by omega) (by omega)
          have h2 := Nat.two_pow_add_eq_or_of_lt (i := 8) hyb V
          rw [show (2 : Nat) ^ 8 * V = V * 256 from by omega] at h2
          rw [← h2] at h1
          rw [← h1]; simp
        go_wp2_with fail
        go_round
        case rel => exact ⟨j + 1, by omega, by go_num, by rw [hv.out]; simp⟩
        case measure => simp [intOf]; omega
      · obtain rfl : j = k := by omega
        have hlv := valOf_lt ((bs.drop 1).take j)
        have hpw : 256 ^ ((bs.drop 1).take j).length ≤ 256 ^ 8 := Nat.pow_le_pow_right (by omega) (by rw [List.length_take]; omega)
        have hbz : bs.getD 1 0 = 0 ↔ (bs.getD 1 0).toNat = 0 := ⟨fun e => by rw [e]; rfl, fun e => UInt8.toNat_inj.1 e⟩
        have hy := (bs.getD 1 0).toNat_lt
        generalize valOf ((bs.drop 1).take j) = V at *
        have hV8 : V < 18446744073709551616 := Nat.lt_of_lt_of_le hlv hpw
        clear hlv hpw
        by_cases hv1 : V < 248
        · have hV : takeV bs = .tuple #[.int .u64 0, .int .i64 0, .int .i64 11] := by unfold takeV; rw [hT.out, if_pos (.inl hv1)]; rfl
          replace hV := Lib.hid hV
          replace hbz := Lib.hid hbz
          go_wp2_with fail
          go_ret3
          exact ⟨by rw [hV.out]; rfl, rfl⟩
        · by_cases hz : (bs.getD 1 0).toNat = 0
          · have hV : takeV bs = .tuple #[.int .u64 0, .int .i64 0, .int .i64 11] := by unfold takeV; rw [hT.out, if_pos (.inr (hbz.2 hz))]; rfl
            replace hV := Lib.hid hV
            rw [hz] at c1
            clear hbz hz
            go_wp2_with fail
            go_ret3
            exact ⟨by rw [hV.out]; rfl, rfl⟩
          · have hV : takeV bs = .tuple #[.int .u64 V, .int .i64 (1 + (j : Int)), .int .i64 0] := by
              unfold takeV; rw [hT.out, if_neg (by rw [hbz]; omega)]; simp
            replace hV := Lib.hid hV
            clear hbz
            generalize (bs.getD 1 0).toNat = y at *
            have hy1 : ((y : Int) == 0) = false := by rw [beq_eq_false_iff_ne]; omega
            go_wp2_with fail
            all_goals (first | (go_ret3; exact ⟨by rw [hV.out]; rfl, rfl⟩) | (exfalso; omega))
end Go.Proofs.Ytdondjodonmebaa
