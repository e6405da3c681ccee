/- The walk of OctetTexts. -/
import Derived.Test.YtdondjodonmebaaOctAwake
import Derived.Test.YtdondjodonmebaaOctLaw
import Derived.Test.YtdondjodonmebaaChecked
import Derived.Test.YtdondjodonmebaaRows
namespace Go.Proofs.Ytdondjodonmebaa
open Go.RowKit
set_option linter.unusedVariables false
set_option linter.unusedSimpArgs false
set_option maxHeartbeats 2000000
set_option maxRecDepth 20000
theorem octetTexts_walk (s : ByteArray) (ws : s.size ≤ maxLen) (a : Option Addr) (len cap : Nat) (zs0 : List Int) (most : Int) (bm : -32768 ≤ most ∧ most ≤ 32767) (w : World) (h0 : IsRow .u8 w a len cap zs0) :
    Calls Try.prog 7 #[.string s, .slice a len cap, .int .i16 most] w fun e w' => e = .returned (.bool true) ∧ Below w.heap.size w w' := by
  have h := h0.row.bytes
  have hs9 : s.size ≤ 9223372036854775807 := by unfold maxLen at ws; omega
  generalize bytesOf (zs0.take len) = more at *
  clear h0
  have hm : len ≤ 9223372036854775807 := by have := h.small; unfold maxLen at this; omega
  have LL := Lib.hid h.length
  go_enter Try.func7, Try.ntmps7
  go_wp2_with fail
  refine (awake_any _).mono ?_; rintro e w1 ⟨rfl, hb1⟩
  have h1 := h.below hb1
  by_cases hl : 400 < s.size
  · go_wp2_with fail
    go_ret
    exact ⟨rfl, hb1⟩
  by_cases hl2 : 60 < len
  · go_wp2_with fail
    all_goals (first | (go_ret; exact ⟨rfl, hb1⟩) | (exfalso; omega))
  have hS : s.size ≤ 400 := by omega
  have hsl : s.data.toList.length = s.size := by rw [Array.length_toList]; rfl
  have hel := enc_le s.size
  have htl : (encText s).length ≤ 1000 := by unfold encText; rw [List.length_append]; omega
  have RT := Lib.hid (text_enc s (by omega) more most)
  have tok1 : True := trivial
  go_wp2_with fail
  refine (texts_any _ 1 1 [s] _ ⟨rfl, by decide, fun t ht => by rw [List.mem_singleton.1 ht]; exact ws, .inr ⟨w1.heap.size, 0, rfl, by simp, fun i hi => by (obtain rfl : i = 0 := (by omega)); simp [go_sem]⟩⟩ (by omega) (fun t ht => by rw [List.mem_singleton.1 ht]; omega)).mono ?_
  rintro e w2 ⟨v2, rfl, hO2, hb2⟩
  have e1 : encTexts [s] = encText s := by simp [encTexts]
  rw [e1] at hO2
  have z1 := hb1.size
  have B2 : Below w.heap.size w w2 := Below.trans (Below.alloc hb1 z1 _) (hb2.mono (by simp; omega))
  have h2 := h1.below ((Below.alloc (Below.refl w1.heap.size w1) (Nat.le_refl _) (.cells #[.string s] 9)).trans (hb2.mono (by simp)))
  have z2 := hb2.size
  have ob := hO2.owns.lt
  simp at z2
  replace hO2 := Lib.hid hO2
  replace h2 := Lib.hid h2
  go_wp2_with (at_builtin; have _t := tok1; refine append_bytes 27 5 info8 Try.underlying27 rfl _ _ rfl _ v2 (encText s) (encText s).length rfl rfl hO2.out a len cap more rfl h2.out (by omega) (by simp; omega) ?_; intro q3 c3 w3 hO3 hR3 hG3; clear tok1; have B3 : Below w.heap.size w w3 := B2.grown hG3 B2.size (fun k hk => by have := (ob k hk).1; simp at this; omega))
  refine (open_any q3 _ c3 (encText s ++ more) w3 hR3 (by omega)).mono ?_; rintro e w4 ⟨g, rfl, hg, hRd, hb4⟩
  have B4 : Below w.heap.size w w4 := B3.trans (hb4.mono B3.size)
  have hg0 : w.heap.size ≤ g := Nat.le_trans B3.size hg
  go_wp2_with fail
  refine (text_any g _ 0 most (by omega) w4 hRd).mono ?_; rintro e w5 ⟨rfl, hR5, hG5⟩
  have B5 : Below w.heap.size w w5 := B4.grown hG5 B4.size (fun k e => by cases e; exact hg0)
  rw [RT.out] at hR5 ⊢
  clear hO3 hR3 hRd hG3 hG5 hb4 RT B2 B3 B4 ob
  by_cases hlong : max most 0 < (s.size : Int)
  · rw [if_pos hlong] at hR5 ⊢
    go_wp2_with fail
    refine (err_any g [] 13 w5 hR5).mono ?_; rintro e w' ⟨rfl, rfl⟩
    go_wp2_with fail
    refine (left_any g [] 13 w5 hR5).mono ?_; rintro e w' ⟨rfl, rfl⟩
    rw [show (([] : List UInt8).length : Int) = 0 from rfl]
    go_wp2_with fail
    refine (end_any g [] 13 w5 hR5).mono ?_; rintro e w' ⟨rfl, rfl⟩
    rw [show endOf [] 13 = 13 from rfl]
    go_wp2_with fail
    go_ret
    exact ⟨rfl, B5⟩
  · rw [if_neg hlong] at hR5 ⊢
    go_wp2_with fail
    refine (err_any g more 0 w5 hR5).mono ?_; rintro e w' ⟨rfl, rfl⟩
    go_wp2_with fail
    refine (left_any g more 0 w5 hR5).mono ?_; rintro e w' ⟨rfl, rfl⟩
    rw [LL.out]
    go_wp2_with fail
    go_ret
    exact ⟨by simp, B5⟩
end Go.Proofs.Ytdondjodonmebaa
