/- The walk of FrameAfter. -/
import Derived.Test.YtegbjlimiephlaaDoorFrLPuts
import Derived.Test.YtegbjlimiephlaaDoorFrTab
import Derived.Test.YtegbjlimiephlaaDoorChecked
import Derived.Test.YtegbjlimiephlaaDoorRows
namespace Go.Proofs.YtegbjlimiephlaaDoor
open Go.RowKit
set_option linter.unusedVariables false
set_option linter.unusedSimpArgs false
set_option maxHeartbeats 4000000
set_option maxRecDepth 20000
/-- all but the first -/
theorem Fnd.tail {w : World} {b off n c : Nat} {x : It} {its : List It} {own body : Nat → Prop} (h : Fnd w (some ⟨b, off, none⟩) n c (x :: its) own body) (hc : 1 < c) : Fnd w (some ⟨b, off + 3, none⟩) (n - 1) (c - 1) its own body := by
  have hl := h.length
  have hle := h.le
  have hs := h.small
  simp at hl
  refine ⟨by omega, by omega, by omega, fun e => (by cases e), .inr ⟨b, off + 3, rfl, ?_⟩⟩
  rcases h.at_ with h0 | ⟨b', off', e, ho, hb, hr, hi⟩
  · omega
  cases e
  refine ⟨ho, hb, fun j hj => ?_, fun i hin => ?_⟩
  · have := hr (3 + j) (by omega)
    rwa [← Nat.add_assoc] at this
  · have := hi (i + 1) (by omega)
    have e3 : off + 3 + i * 3 = off + (i + 1) * 3 := by omega
    rw [e3]
    exact this
theorem frameAfter_walk (a0 : Option Addr) (len0 cap0 : Nat) (zs0 : List Int) (a : Option Addr) (len cap : Nat) (ks : List (UInt8 × List UInt8)) (w : World) (h0 : IsRow .u8 w a0 len0 cap0 zs0) (h : RowKB w a len ks) (hT : Tab w) :
    Calls Tryd.prog 7 #[.slice a0 len0 cap0, .slice a len cap] w fun e w' => e = .returned (.bool true) ∧ Below w.heap.size w w' := by
  have hB := h0.row.bytes
  generalize bytesOf (zs0.take len0) = xs at *
  clear h0
  have LX := Lib.hid hB.length
  have LL := Lib.hid h.length
  have hm := h.small
  have hm0 := hB.small
  unfold maxLen at hm hm0
  go_enter Tryd.func7, Tryd.ntmps7
  go_wp2_with fail
  refine (awake_any _ hT).mono ?_; rintro e w1 ⟨rfl, hb1⟩
  have h1 := h.below hb1
  have hB1 := hB.below hb1
  by_cases hl : 12 < len
  · go_wp2_with fail
    go_ret
    exact ⟨rfl, hb1⟩
  by_cases hl2 : 300 < len0
  · go_wp2_with fail
    all_goals (first | (go_ret; exact ⟨rfl, hb1⟩) | (exfalso; omega))
  go_wp2_with fail
  go_loop [6] (fun i => ∃ k : Nat, k ≤ len0 ∧ i = .int .i64 k ∧ ∀ x ∈ xs.take k, x ≠ 165) (fun i => len0 - (intOf i).toNat)
  case atStart => exact ⟨0, Nat.zero_le _, rfl, by simp⟩
  case round =>
    obtain ⟨k, hk, rfl, hno⟩ := hrel
    by_cases hlt : k < len0
    · rcases hB1.at_ with e0 | ⟨b, off, rfl, hlb, hc⟩
      · omega
      have ck := hc k hlt
      have hkl : k < xs.length := by have := LX.out; omega
      have h2 : ∀ x ∈ xs.take (k + 1), x ∈ xs.take k ∨ x = xs.getD k 0 := by
        intro x hx
        rw [take_succ' hkl] at hx
        exact (List.mem_append.1 hx).imp id (fun h => List.mem_singleton.1 h)
      have hk0 : (0 : Int) ≤ (k : Int) := by omega
      have hk1 : (k : Int) < (len0 : Int) := by omega
      generalize xs.getD k 0 = x at *
      clear hc
      by_cases hx : x = 165
      · subst hx
        have ck' : w1.cell? ⟨b, off + k, none⟩ = some (.int .u8 165) := ck
        clear ck
        go_wp2_with fail
        go_ret
        exact ⟨rfl, hb1⟩
      have hxn : x.toNat ≠ 165 := fun e => hx (UInt8.toNat_inj.1 e)
      have hxi : ((x.toNat : Int) == 165) = false := by rw [beq_eq_false_iff_ne]; omega
      replace h2 := Lib.hid h2
      go_wp2_with fail
      go_round
      case rel => exact ⟨k + 1, by omega, by go_num, fun y hy => (h2.out y hy).elim (hno y) (fun e => e ▸ hx)⟩
      case measure => simp [intOf] <;> omega
    · obtain rfl : k = len0 := by omega
      rw [List.take_of_length_le (by rw [LX.out]; exact Nat.le_refl _)] at hno
      go_wp2_with fail
      refine (puts_any a len cap ks w1 h1 (hT.below hb1) (by omega)).mono ?_
      rintro e w2 (⟨rfl, hb2⟩ | ⟨q, n, c, rfl, hO, hb2, hall⟩)
      · go_wp2_with fail
        go_ret
        exact ⟨rfl, hb1.trans (hb2.mono hb1.size)⟩
      have B2 := hb1.trans (hb2.mono hb1.size)
      obtain ⟨hn, hR⟩ := hO.rowS
      have hle := putsAll_le ks hall
      have hit := items_puts ks hall
      have hks := LL.out
      have hxs := LX.out
      have hB2 := hB.below B2
      have A3 : Below w2.heap.size w2 (w2.alloc (.cells #[.slice a0 k cap0, .slice q n c] 22)) := (Below.refl _ _).alloc (Nat.le_refl _) _
      have hBB : RowBB (w2.alloc (.cells #[.slice a0 k cap0, .slice q n c] 22)) (some ⟨w2.heap.size, 0, none⟩) 2 [xs, putsAll ks] :=
        ⟨rfl, by decide, .inr ⟨w2.heap.size, 0, rfl, by simp, fun i hi => by
          have : i = 0 ∨ i = 1 := by omega
          rcases this with rfl | rfl
          · exact ⟨a0, k, cap0, by simp [go_sem], hB2.below A3⟩
          · exact ⟨q, n, c, by simp [go_sem], hR.below A3⟩⟩⟩
      have B3 := B2.trans (A3.mono B2.size)
      have htot : tot [xs, putsAll ks] ≤ 100000 := by simp [tot]; omega
      have htot1 : tot [putsAll ks] ≤ 100000 := by simp [tot]; omega
      have hlm : (ks.map frameOf).length = len := by rw [List.length_map, hks]
      have hR3 := hR.below A3
      replace hn := Lib.hid hn; replace hit := Lib.hid hit; replace hlm := Lib.hid hlm
      clear hks hle hxs
      go_wp2_with fail
      refine (all_any _ 2 2 [xs, putsAll ks] _ hBB (hT.below B3) (by omega) htot).mono ?_; rintro e w5 ⟨q5, n5, c5, o5, b5, rfl, hF5, hb5⟩
      have B5 := B3.trans (hb5.mono B3.size)
      have hR5 := hR3.below hb5
      have A6 : Below w5.heap.size w5 (w5.alloc (.cells #[.slice q n c] 22)) := (Below.refl _ _).alloc (Nat.le_refl _) _
      have hBB2 : RowBB (w5.alloc (.cells #[.slice q n c] 22)) (some ⟨w5.heap.size, 0, none⟩) 1 [putsAll ks] :=
        ⟨rfl, by decide, .inr ⟨w5.heap.size, 0, rfl, by simp, fun i hi => by
          obtain rfl : i = 0 := by omega
          exact ⟨q, n, c, by simp [go_sem], hR5.below A6⟩⟩⟩
      have B6 := B5.trans (A6.mono B5.size)
      go_wp2_with fail
      refine (all_any _ 1 1 [putsAll ks] _ hBB2 (hT.below B6) (by omega) htot1).mono ?_; rintro e w7 ⟨q7, n7, c7, o7, b7, rfl, hF7, hb7⟩
      have B7 := B6.trans (hb7.mono B6.size)
      have hF5' := (hF5.below A6).below hb7
      clear hBB hBB2 hR5 hR3 hR hO hF5 A3 A6
      by_cases hk0 : k = 0
      · subst hk0
        obtain rfl : xs = [] := List.eq_nil_of_length_eq_zero LX.out
        rw [items_after0] at hF5'
        obtain rfl : n7 = n5 := by rw [← hF7.length, ← hF5'.length]
        go_wp2_with fail
        refine (same_true q5 n7 c5 q7 c7 _ w7 hF5' hF7).mono ?_; rintro e w9 ⟨rfl, hb9⟩
        go_wp2_with fail
        go_ret
        exact ⟨rfl, B7.trans (hb9.mono B7.size)⟩
      · have hxl : xs.length = k := LX.out
        rw [items_after xs ks hno hall (by omega), hxl] at hF5'
        rw [hit.out] at hF7
        have hl7 := hF7.length
        have hl5 := hF5'.length
        rw [List.length_cons] at hl5
        obtain rfl : n5 = n7 + 1 := by omega
        have hle5 := hF5'.le
        have hsm5 := hF5'.small
        unfold maxLen at hsm5
        rcases hF5'.at_ with e0 | ⟨bb, offb, rfl, _, hbb, _, ib⟩
        · omega
        obtain ⟨d0, _⟩ := ib 0 (by omega)
        simp only [List.getD_cons_zero, Nat.zero_mul, Nat.add_zero] at d0
        have hzk : ((k : Int) == 0) = false := by rw [beq_eq_false_iff_ne]; omega
        have hzn : (k == 0) = false := by rw [beq_eq_false_iff_ne]; omega
        have j0 : (0 : Int) < ((n7 : Int) + 1) := by omega
        have j1 : (1 : Int) ≤ ((n7 : Int) + 1) := by omega
        clear ib
        replace hl7 := Lib.hid hl7; replace hl5 := Lib.hid hl5
        replace hxl := Lib.hid hxl
        by_cases hc1 : c5 = 1
        · subst hc1
          obtain rfl : n7 = 0 := by omega
          have hkn : ks.map frameOf = [] := List.eq_nil_of_length_eq_zero hl7.out
          rw [hkn] at hF7
          have hFt : Fnd w7 (some ⟨bb, offb, none⟩) 0 0 [] o5 b5 := ⟨rfl, Nat.le_refl _, Nat.zero_le _, fun e => (by cases e), .inl rfl⟩
          replace hkn := Lib.hid hkn
          go_wp2_with fail
          refine (same_true _ 0 0 q7 c7 [] w7 hFt hF7).mono ?_; rintro e w9 ⟨rfl, hb9⟩
          go_wp2_with fail
          go_ret
          exact ⟨by simp, B7.trans (hb9.mono B7.size)⟩
        · have hFt := hF5'.tail (by omega)
          rw [Nat.add_sub_cancel] at hFt
          have j2 : (1 : Int) < (c5 : Int) := by omega
          go_wp2_with fail
          refine (same_true _ n7 (c5 - 1) q7 c7 _ w7 hFt hF7).mono ?_; rintro e w9 ⟨rfl, hb9⟩
          go_wp2_with fail
          go_ret
          exact ⟨by simp, B7.trans (hb9.mono B7.size)⟩
end Go.Proofs.YtegbjlimiephlaaDoor
