/- lookoutlaw04.few; the walk of FramePieces. -/
import Derived.Test.YtegbjlimiephlaaDoorFrSame
import Derived.Test.YtegbjlimiephlaaDoorFrPieceLaw
import Derived.Test.YtegbjlimiephlaaDoorFrTab
import Derived.Test.YtegbjlimiephlaaDoorFrOpen
import Derived.Test.YtegbjlimiephlaaDoorChecked
import Derived.Test.YtegbjlimiephlaaDoorRows
namespace Go.Proofs.YtegbjlimiephlaaDoor
open Go.RowKit
set_option linter.unusedVariables false
set_option linter.unusedSimpArgs false
set_option maxHeartbeats 4000000
set_option maxRecDepth 20000
def SomeFew (bss : List (List UInt8)) (len : Nat) (w : World) (e : Ending) (w' : World) : Prop := ∃ b : Bool, e = .returned (.bool b) ∧ w = w' ∧ (b = true → len ≤ 60 ∧ tot bss ≤ 1500)
theorem few_any (a : Option Addr) (len cap : Nat) (bss : List (List UInt8)) (w : World) (h : RowBB w a len bss) :
    Calls Tryd.prog 22 #[.slice a len cap] w (SomeFew bss len w) := by
  have LL := Lib.hid h.length
  have hm := h.small
  unfold maxLen at hm
  go_enter Tryd.func22, Tryd.ntmps22
  go_wp2_with fail
  go_loop [3, 4] (fun n i => ∃ k : Nat, k ≤ len ∧ i = .int .i64 k ∧ n = .int .i64 (tot (bss.take k) : Int) ∧ tot (bss.take k) ≤ 1500) (fun n i => len - (intOf i).toNat)
  case atStart => exact ⟨0, Nat.zero_le _, rfl, rfl, by simp [tot]⟩
  case round =>
    obtain ⟨k, hk, rfl, rfl, ht⟩ := hrel
    by_cases hlt : k < len
    · rcases h.at_ with h0 | ⟨b, off, rfl, hlb, hc⟩
      · omega
      obtain ⟨q, n, c, ck, hR⟩ := hc k hlt
      have hkl : k < bss.length := by have := LL.out; omega
      have h2 : tot (bss.take (k + 1)) = tot (bss.take k) + n := by rw [takeBB_succ hkl, tot_snoc, hR.length]
      have hk0 : (0 : Int) ≤ (k : Int) := by omega
      have hk1 : (k : Int) < (len : Int) := by omega
      have hn9 : n ≤ 9223372036854775807 := by have := hR.small; unfold maxLen at this; omega
      clear hc hR
      generalize hgC : tot (bss.take k) = tk at *
      replace h2 := Lib.hid h2
      clear hgC
      by_cases hb1 : 1500 < n
      · go_wp2_with fail
        go_ret
        exact ⟨false, rfl, rfl, fun e => by cases e⟩
      by_cases hb2 : 1500 < tk + n
      · have hb3 : (1500 : Int) < (tk : Int) + (n : Int) := by omega
        go_wp2_with fail
        go_ret
        exact ⟨false, rfl, rfl, fun e => by cases e⟩
      have hb3 : (tk : Int) + (n : Int) ≤ 1500 := by omega
      go_wp2_with fail
      go_round
      case rel => exact ⟨k + 1, by omega, by go_num, by rw [h2.out]; go_num, by rw [h2.out]; omega⟩
      case measure => simp [intOf] <;> omega
    · obtain rfl : k = len := by omega
      rw [List.take_of_length_le (by rw [LL.out]; exact Nat.le_refl _)] at ht
      go_wp2_with fail
      go_ret
      exact ⟨decide ((k : Int) ≤ 60), rfl, rfl, fun e => ⟨by have := of_decide_eq_true e; omega, ht⟩⟩
theorem framePieces_walk (a : Option Addr) (len cap : Nat) (bss : List (List UInt8)) (w : World) (h : RowBB w a len bss) (hT : Tab w) :
    Calls Tryd.prog 5 #[.slice a len cap] w fun e w' => e = .returned (.bool true) ∧ Below w.heap.size w w' := by
  have LL := Lib.hid h.length
  have hm := h.small
  unfold maxLen at hm
  go_enter Tryd.func5, Tryd.ntmps5
  go_wp2_with fail
  refine (awake_any _ hT).mono ?_; rintro e w1 ⟨rfl, hb1⟩
  have h1 := h.below hb1
  go_wp2_with fail
  refine (few_any a len cap bss w1 h1).mono ?_; rintro e w' ⟨ok, rfl, rfl, hok⟩
  cases ok
  · go_wp2_with fail
    go_ret
    exact ⟨rfl, hb1⟩
  obtain ⟨hl60, ht⟩ := hok rfl
  have hflat := Lib.hid (items_flat bss)
  have htf := Lib.hid (tot_flat bss)
  have hst : ∀ k, tot (bss.take k) ≤ 1500 := fun k => Nat.le_trans (tot_take_le bss k) ht
  clear hok
  go_wp2_with fail
  go_loopw [5, 6] (fun v i wr => ∃ k : Nat, k ≤ len ∧ i = .int .i64 k ∧ ∃ q n c, v = .slice q n c ∧ n = tot (bss.take k) ∧ OwnB 5 w1.heap.size wr (.slice q n c) (bss.take k).flatten ∧ Below w.heap.size w wr ∧ Below w1.heap.size w1 wr) (fun v i wr => len - (intOf i).toNat)
  case atStart => exact ⟨0, Nat.zero_le _, rfl, none, 0, 0, rfl, rfl, OwnB.nil _ _ _, hb1, Below.refl _ _⟩
  case round =>
    obtain ⟨k, hk, rfl, q, n, c, rfl, hnt, hO, hbr, hbr1⟩ := hrel
    have zr := hbr1.size
    by_cases hlt : k < len
    · rcases (h1.below hbr1).at_ with h0 | ⟨b, off, rfl, hlb, hc⟩
      · omega
      obtain ⟨q1, n1, c1, ck, hR⟩ := hc k hlt
      have hkl : k < bss.length := by have := LL.out; omega
      have hf1 : (bss.take (k + 1)).flatten = (bss.take k).flatten ++ bss.getD k [] := by rw [takeBB_succ hkl]; simp
      have h2 : tot (bss.take (k + 1)) = tot (bss.take k) + n1 := by rw [takeBB_succ hkl, tot_snoc, hR.length]
      have hs1 := hst (k + 1)
      have hk0 : (0 : Int) ≤ (k : Int) := by omega
      have hk1 : (k : Int) < (len : Int) := by omega
      have hnn : n + n1 ≤ 1500 := by omega
      have hn2 : n + n1 = tot (bss.take (k + 1)) := by omega
      have hol := hO.rowS.1
      replace hnt := Lib.hid hnt; replace h2 := Lib.hid h2; replace hf1 := Lib.hid hf1; replace hn2 := Lib.hid hn2; replace hol := Lib.hid hol
      clear hc
      have tok1 : True := trivial
      go_wp2_with (at_builtin; have _t := tok1; refine append_bytes 22 5 info8 Tryd.underlying22 rfl _ _ rfl w1.heap.size (.slice q n c) _ n hol.out.symm rfl hO q1 n1 c1 _ rfl hR (by omega) zr ?_; intro q3 c3 w3 hO3 hR3 hG3; clear tok1; have B3 : Below w.heap.size w w3 := hbr.grown hG3 hbr.size (fun x hx => by have := (hO.owns.lt x hx).1; have := hb1.size; omega); have B31 : Below w1.heap.size w1 w3 := hbr1.grown hG3 zr (fun x hx => (hO.owns.lt x hx).1))
      go_roundw
      case rel => exact ⟨k + 1, by omega, by go_num, q3, n + n1, c3, rfl, hn2.out, by rw [hf1.out]; exact hO3, B3, B31⟩
      case measure => simp [intOf] <;> omega
    · obtain rfl : k = len := by omega
      rw [List.take_of_length_le (by rw [LL.out]; exact Nat.le_refl _)] at hO hnt
      have hR := hO.rowS.2
      replace hnt := Lib.hid hnt
      go_wp2_with fail
      refine (all_any a k cap bss wr (h1.below hbr1) (hT.below hbr) (by omega) (by omega)).mono ?_; rintro e w3 ⟨q3, n3, c3, o3, b3, rfl, hF3, hb3⟩
      have B3 := hbr.trans (hb3.mono hbr.size)
      have A4 : Below w3.heap.size w3 (w3.alloc (.cells #[.slice q n c] 22)) := (Below.refl _ _).alloc (Nat.le_refl _) _
      have hBB : RowBB (w3.alloc (.cells #[.slice q n c] 22)) (some ⟨w3.heap.size, 0, none⟩) 1 [bss.flatten] :=
        ⟨rfl, by decide, .inr ⟨w3.heap.size, 0, rfl, by simp, fun i hi => by
          obtain rfl : i = 0 := by omega
          exact ⟨q, n, c, by simp [go_sem], (hR.below hb3).below A4⟩⟩⟩
      have B4 := B3.trans (A4.mono B3.size)
      go_wp2_with fail
      refine (all_any _ 1 1 [bss.flatten] _ hBB (hT.below B4) (by omega) (by rw [htf.out]; omega)).mono ?_; rintro e w5 ⟨q5, n5, c5, o5, b5, rfl, hF5, hb5⟩
      have B5 := B4.trans (hb5.mono B4.size)
      rw [← hflat.out] at hF5
      have hF3' := (hF3.below A4).below hb5
      obtain rfl : n5 = n3 := by rw [← hF3.length, ← hF5.length]
      go_wp2_with fail
      refine (same_true q3 n5 c3 q5 c5 (items bss) w5 hF3' hF5).mono ?_; rintro e w6 ⟨rfl, hb6⟩
      go_wp2_with fail
      go_ret
      exact ⟨rfl, B5.trans (hb6.mono B5.size)⟩
end Go.Proofs.YtegbjlimiephlaaDoor
