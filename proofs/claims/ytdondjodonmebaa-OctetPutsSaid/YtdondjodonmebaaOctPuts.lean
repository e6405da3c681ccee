/- The walk of OctetPuts. -/
import Derived.Test.YtdondjodonmebaaOctAwake
import Derived.Test.YtdondjodonmebaaOctRTake
import Derived.Test.YtdondjodonmebaaOctRText
import Derived.Test.YtdondjodonmebaaOctOpen
import Derived.Deep.RegionHeld3
import Derived.Deep.QuietTactic
import Derived.Test.YtdondjodonmebaaChecked
import Derived.Test.YtdondjodonmebaaRows
namespace Go.Proofs.Ytdondjodonmebaa
open Go.RowKit
set_option linter.unusedVariables false
set_option linter.unusedSimpArgs false
set_option maxHeartbeats 2000000
set_option maxRecDepth 20000
theorem ba_app2 (a b : List UInt8) : ((⟨a.toArray⟩ : ByteArray) ++ (⟨b.toArray⟩ : ByteArray)) = ⟨(a ++ b).toArray⟩ := by
  apply ByteArray.ext
  simp [ByteArray.data_append]
theorem octetPuts_walk (a : Option Addr) (len cap : Nat) (zs0 : List Int) (a1 : Option Addr) (len1 cap1 : Nat) (ts : List ByteArray) (a2 : Option Addr) (len2 cap2 : Nat) (zs2 : List Int) (w : World) (h0 : IsRow .u64 w a len cap zs0) (hT : RowT w a1 len1 ts) (h2 : IsRow .u8 w a2 len2 cap2 zs2) :
    Calls Try.prog 5 #[.slice a len cap, .slice a1 len1 cap1, .slice a2 len2 cap2] w fun e w' => e = .returned (.bool true) ∧ Below w.heap.size w w' := by
  have hU := h0.row
  have hB := h2.row.bytes
  generalize zs0.take len = us at *
  generalize bytesOf (zs2.take len2) = bs at *
  clear h0 h2
  have hm : len ≤ 9223372036854775807 := by have := hU.small; unfold maxLen at this; omega
  have hm1 : len1 ≤ 9223372036854775807 := by have := hT.small; unfold maxLen at this; omega
  have hm2 : len2 ≤ 9223372036854775807 := by have := hB.small; unfold maxLen at this; omega
  have LU := Lib.hid hU.length
  have LT := Lib.hid hT.length
  have LB := Lib.hid hB.length
  go_enter Try.func5, Try.ntmps5
  go_wp2_with fail
  refine (awake_any _).mono ?_; rintro e w1 ⟨rfl, hb1⟩
  by_cases hl : 200 < len
  · go_wp2_with fail
    go_ret
    exact ⟨rfl, hb1⟩
  by_cases hl1 : 40 < len1
  · go_wp2_with fail
    all_goals (first | (go_ret; exact ⟨rfl, hb1⟩) | (exfalso; omega))
  by_cases hl2 : 1000 < len2
  · go_wp2_with fail
    all_goals (first | (go_ret; exact ⟨rfl, hb1⟩) | (exfalso; omega))
  go_wp2_with fail
  go_loopw [8, 9] (fun s i wr => ∃ k : Nat, k ≤ len ∧ i = .int .i64 k ∧ s = .string ⟨(encAll (us.take k)).toArray⟩ ∧ Below w.heap.size w wr) (fun s i wr => len - (intOf i).toNat)
  case atStart => exact ⟨0, Nat.zero_le _, rfl, rfl, hb1⟩
  case round =>
    obtain ⟨k, hk, rfl, rfl, hbr⟩ := hrel
    have zr := hbr.size
    by_cases hlt : k < len
    · rcases hU.at_ with h0 | ⟨b, off, rfl, hlb, hc⟩
      · omega
      have ck := (hbr.cell (p := ⟨b, off + k, none⟩) hlb).trans (hc k hlt)
      obtain ⟨g1, g2⟩ := range_u64 hU.wf k
      have h1 : encAll (us.take (k + 1)) = encAll (us.take k) ++ enc (us.getD k 0).toNat := by rw [take_succZ (by have := LU.out; omega), encAll_snoc]
      have hle := encAll_le (us.take k)
      have htl : (us.take k).length ≤ len := by rw [List.length_take]; omega
      generalize us.getD k 0 = z at *
      obtain ⟨x, rfl⟩ := Int.eq_ofNat_of_zero_le g1
      rw [Int.toNat_natCast] at h1
      have hel := enc_le x
      have hN := Lib.hid (fun W => rnum_any x (by omega) W)
      generalize enc x = q at *
      replace h1 := Lib.hid h1
      generalize encAll (us.take k) = l0 at *
      clear hc
      go_wp2_with fail
      refine (hN.out _).mono ?_; rintro e w3 ⟨rfl, hb3⟩
      have HB3 := hbr.trans (hb3.mono zr)
      go_wp2_with fail
      go_roundw
      case rel => exact ⟨k + 1, by omega, by go_num, by rw [h1.out, ba_app2], HB3⟩
      case measure => simp [intOf] <;> omega
    · obtain rfl : k = len := by omega
      rw [List.take_of_length_le (by rw [LU.out]; exact Nat.le_refl _)]
      have hbw := hbr
      obtain ⟨S, hS⟩ : ∃ S, encAll us = S := ⟨_, rfl⟩
      rw [hS]
      replace hS := Lib.hid hS
      go_wp2_with fail
      go_loopw [10, 11] (fun s i wr => ∃ j : Nat, j ≤ len1 ∧ i = .int .i64 j ∧ s = .string ⟨(encTexts (ts.take j)).toArray⟩ ∧ Below w.heap.size w wr ∧ ∀ t ∈ ts.take j, t.size ≤ 400) (fun s i wr => len1 - (intOf i).toNat)
      case atStart => exact ⟨0, Nat.zero_le _, rfl, rfl, hbw, by simp⟩
      case round =>
        obtain ⟨j, hj, rfl, rfl, hbr, hall⟩ := hrel
        have zr := hbr.size
        by_cases hlt : j < len1
        · rcases hT.at_ with h0 | ⟨b, off, rfl, hlb, hc⟩
          · omega
          have ck := (hbr.cell (p := ⟨b, off + j, none⟩) hlb).trans (hc j hlt)
          have hkl : j < ts.length := by have := LT.out; omega
          have h1 : encTexts (ts.take (j + 1)) = encTexts (ts.take j) ++ encText (ts.getD j ⟨#[]⟩) := by
            rw [List.take_succ_eq_append_getElem hkl, encTexts_snoc]
            simp [List.getD, hkl]
          have h2 : ∀ t ∈ ts.take (j + 1), t ∈ ts.take j ∨ t = ts.getD j ⟨#[]⟩ := by
            intro t ht
            rw [List.take_succ_eq_append_getElem hkl] at ht
            rcases List.mem_append.1 ht with h | h
            · exact .inl h
            · exact .inr (by rw [List.mem_singleton.1 h]; simp [List.getD, hkl])
          have hle := encTexts_le (ts.take j) (fun s hs => by have := hall s hs; omega)
          have htl : (ts.take j).length ≤ len1 := by rw [List.length_take]; omega
          have hok := hT.ok (ts.getD j ⟨#[]⟩) (by simp [List.getD, hkl])
          have hok' : (ts.getD j ⟨#[]⟩).size ≤ 9223372036854775807 := by unfold maxLen at hok; omega
          generalize ts.getD j ⟨#[]⟩ = t at *
          clear hc hok
          by_cases hbig : 400 < t.size
          · go_wp2_with fail
            go_ret
            exact ⟨rfl, hbr⟩
          have hN := Lib.hid (fun W => rtxt_any t (by omega) W)
          have htl2 : (encText t).length ≤ 1000 := by
            unfold encText
            have := enc_le t.size
            have h4 : t.data.toList.length = t.size := by rw [Array.length_toList]; rfl
            rw [List.length_append]; omega
          replace h1 := Lib.hid h1
          replace h2 := Lib.hid h2
          generalize encText t = q at *
          generalize encTexts (ts.take j) = l0 at *
          go_wp2_with fail
          refine (hN.out _).mono ?_; rintro e w3 ⟨rfl, hb3⟩
          have HB3 := hbr.trans (hb3.mono zr)
          go_wp2_with fail
          go_roundw
          case rel => exact ⟨j + 1, by omega, by go_num, by rw [h1.out, ba_app2], HB3, fun t' ht => (h2.out t' ht).elim (hall t') (fun e => by rw [e]; omega)⟩
          case measure => simp [intOf] <;> omega
        · obtain rfl : j = len1 := by omega
          rw [List.take_of_length_le (by rw [LT.out]; exact Nat.le_refl _)] at hall ⊢
          obtain ⟨U, hUU⟩ : ∃ U, encTexts ts = U := ⟨_, rfl⟩
          rw [hUU]
          replace hUU := Lib.hid hUU
          have hBr := hB.below hbr
          go_wp2_with fail
          refine (take_any a2 len2 cap2 bs wr hBr).mono ?_; rintro e w' ⟨rfl, rfl⟩
          have hRT := rtake_any bs (by have := LB.out; omega) wr
          unfold takeV at hRT ⊢
          generalize takeOf bs = tk at *
          obtain ⟨x, n, f⟩ := tk
          replace hRT := Lib.hid hRT
          have cvb := hBr.conv 27 9 5 Try.underlying27 Try.underlying5 Try.underlying9 (P := Try.prog)
          go_wp2_with fail
          refine hRT.out.mono ?_; rintro e w5 ⟨rfl, hb5⟩
          have HB5 := hbr.trans (hb5.mono zr)
          go_wp2_with fail
          refine (puts_any a k cap us w5 (hU.below HB5) (by omega)).mono ?_; rintro e w6 ⟨v6, rfl, hO6, hb6⟩
          have HB6 := HB5.trans (hb6.mono HB5.size)
          rw [hS.out] at hO6
          obtain ⟨q6, c6, rfl, hR6, _⟩ := hO6.row
          have cv6 := hR6.conv 27 9 5 Try.underlying27 Try.underlying5 Try.underlying9 (P := Try.prog)
          clear hO6 hR6
          go_wp2_with fail
          refine (texts_any a1 j cap1 ts w6 (hT.below HB6) (by omega) (fun s hs => by have := hall s hs; omega)).mono ?_; rintro e w7 ⟨v7, rfl, hO7, hb7⟩
          have HB7 := HB6.trans (hb7.mono HB6.size)
          rw [hUU.out] at hO7
          obtain ⟨q7, c7, rfl, hR7, _⟩ := hO7.row
          have cv7 := hR7.conv 27 9 5 Try.underlying27 Try.underlying5 Try.underlying9 (P := Try.prog)
          clear hO7 hR7
          go_wp2_with fail
          go_ret
          exact ⟨by simp, HB7⟩
end Go.Proofs.Ytdondjodonmebaa
