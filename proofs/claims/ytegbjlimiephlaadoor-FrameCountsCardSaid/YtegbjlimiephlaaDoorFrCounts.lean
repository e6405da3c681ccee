/- The walk of FrameCounts. -/
import Derived.Test.YtegbjlimiephlaaDoorFrPieces
import Derived.Test.YtegbjlimiephlaaDoorFrCountLaw
import Derived.Test.YtegbjlimiephlaaDoorChecked
import Derived.Test.YtegbjlimiephlaaDoorRows
namespace Go.Proofs.YtegbjlimiephlaaDoor
open Go.RowKit
set_option linter.unusedVariables false
set_option linter.unusedSimpArgs false
set_option maxHeartbeats 4000000
set_option maxRecDepth 20000
theorem frameCounts_walk (a : Option Addr) (len cap : Nat) (bss : List (List UInt8)) (w : World) (h : RowBB w a len bss) (hT : Tab w) :
    Calls Tryd.prog 8 #[.slice a len cap] w fun e w' => e = .returned (.bool true) ∧ Below w.heap.size w w' := by
  have LL := Lib.hid h.length
  have hm := h.small
  unfold maxLen at hm
  have hg0 := hT.lt
  go_enter Tryd.func8, Tryd.ntmps8
  go_wp2_with fail
  refine (awake_any _ hT).mono ?_; rintro e w1 ⟨rfl, hb1⟩
  have h1 := h.below hb1
  go_wp2_with fail
  refine (few_any a len cap bss w1 h1).mono ?_; rintro e w' ⟨ok, rfl, rfl, hok⟩
  cases ok
  · go_wp2_with fail
    go_ret
    exact ⟨rfl, hb1⟩
  obtain ⟨hl60, ht⟩ := hok rfl
  have hst : ∀ k, tot (bss.take k) ≤ 1500 := fun k => Nat.le_trans (tot_take_le bss k) ht
  clear hok
  go_wp2_with fail
  refine (new_any w1).mono ?_; rintro e w2 ⟨g, rfl, hg, ⟨S, hD, hS⟩, hb2⟩
  have B2 := hb1.trans (hb2.mono hb1.size)
  have hS1 : ∀ x, S x → w.heap.size ≤ x := fun x hx => Nat.le_trans hb1.size (hS x hx)
  go_wp2_with fail
  go_loopw [6, 7] (fun n i wr => ∃ k : Nat, k ≤ len ∧ i = .int .i64 k ∧ n = .int .i64 (tot (bss.take k) : Int) ∧ ∃ S, Dec wr g S (givesAll (bss.take k)) ∧ (∀ x, S x → w.heap.size ≤ x) ∧ Below w.heap.size w wr) (fun n i wr => len - (intOf i).toNat)
  case atStart => exact ⟨0, Nat.zero_le _, rfl, by simp [tot], S, hD, hS1, B2⟩
  case round =>
    clear hD hS hS1
    obtain ⟨k, hk, rfl, rfl, S, hD, hS, hbr⟩ := hrel
    have zr := hbr.size
    have hTS : ¬ S 0 := fun hs => by have := hS _ hs; omega
    have hsz := givesAll_sz (bss.take k)
    have ht0 := hst k
    by_cases hlt : k < len
    · rcases h.at_ with h0 | ⟨b, off, rfl, hlb, hc⟩
      · omega
      obtain ⟨q, n, c, ck0, hR0⟩ := hc k hlt
      have ck := (hbr.cell (p := ⟨b, off + k, none⟩) hlb).trans ck0
      have hkl : k < bss.length := by have := LL.out; omega
      have h1 : givesAll (bss.take (k + 1)) = (givesAll (bss.take k)).give (bss.getD k []) := by rw [takeBB_succ hkl, givesAll_snoc]
      have h2 : tot (bss.take (k + 1)) = tot (bss.take k) + n := by rw [takeBB_succ hkl, tot_snoc, hR0.length]
      have ht1 := hst (k + 1)
      have hheld := gives_held (bss.take (k + 1))
      have hR := hR0.below hbr
      generalize bss.getD k [] = bk at *
      clear hc ck0 hR0
      have hk0 : (0 : Int) ≤ (k : Int) := by omega
      have hk1 : (k : Int) < (len : Int) := by omega
      have hp := (givesAll (bss.take k)).sz_parts
      generalize hgA : givesAll (bss.take k) = dk at *
      generalize hgC : tot (bss.take k) = tk at *
      rw [h1, h2] at hheld
      replace h1 := Lib.hid h1
      rw [h2] at ht1
      replace h2 := Lib.hid h2
      replace hp := Lib.hid hp
      clear hgA hgC
      have hbound : dk.found.length + dk.skips + 2 * (dk.rest.length + n) ≤ 1000000 := by have := hp.out; omega
      go_wp2_with fail
      refine (give_any g S dk wr hD (hT.below hbr) hTS q n c bk hR hbound).mono ?_; rintro e w3 ⟨rfl, S3, hD3, t3, n3⟩
      have B3 := hbr.trans ((t3.below zr (fun x hx hs => by have := hS x hs; omega)))
      have ck3 := ((t3.below (B := w.heap.size) zr (fun x hx hs => by have := hS x hs; omega)).cell (p := ⟨b, off + k, none⟩) hlb).trans ck
      clear ck
      have HD := fun W => held_any g S3 (dk.give bk) W
      obtain ⟨hh1, hh2⟩ := hheld
      obtain ⟨H, hH⟩ : ∃ H, (dk.give bk).rest.length = H := ⟨_, rfl⟩
      rw [hH] at hh1 hh2
      have hi1 : (H : Int) ≤ 262 := by omega
      have hi2 : (H : Int) ≤ (tk : Int) + (n : Int) := by omega
      replace hH := Lib.hid hH
      replace HD := Lib.hid HD
      go_wp2_with fail
      refine (HD.out w3 hD3).mono ?_; rintro e w' ⟨rfl, rfl⟩
      rw [hH.out]
      go_wp2_with fail
      refine (HD.out w3 hD3).mono ?_; rintro e w' ⟨rfl, rfl⟩
      rw [hH.out]
      go_wp2_with fail
      go_roundw
      case rel => exact ⟨k + 1, by omega, by go_num, by rw [h2.out]; go_num, S3, by rw [h1.out]; exact hD3, fun x hx => (n3 x hx).elim (hS x) (fun h => by omega), B3⟩
      case measure => simp [intOf] <;> omega
    · obtain rfl : k = len := by omega
      rw [List.take_of_length_le (by rw [LL.out]; exact Nat.le_refl _)] at ht0
      have hc := items_counts bss
      clear hD hsz
      go_wp2_with fail
      refine (all_any a k cap bss wr (h.below hbr) (hT.below hbr) (by omega) (by omega)).mono ?_; rintro e w5 ⟨q5, n5, c5, o5, b5, rfl, hF5, hb5⟩
      have B5 := hbr.trans (hb5.mono zr)
      obtain ⟨hsum, hap⟩ := hc
      have hl5 := hF5.length
      have hle5 := hF5.le
      have hsm5 := hF5.small
      unfold maxLen at hsm5
      have htk : bss.take k = bss := List.take_of_length_le (by rw [LL.out]; exact Nat.le_refl _)
      have hmt := fun j => many_take_le (items bss) j
      rw [hsum] at hmt
      generalize items bss = its at *
      replace hsum := Lib.hid hsum
      replace hap := Lib.hid hap
      replace hl5 := Lib.hid hl5
      replace htk := Lib.hid htk
      replace hmt := Lib.hid hmt
      go_wp2_with fail
      go_loop [9, 10] (fun sm i => ∃ j : Nat, j ≤ n5 ∧ i = .int .i64 j ∧ sm = .int .i64 (many (its.take j) : Int)) (fun sm i => n5 - (intOf i).toNat)
      case atStart => exact ⟨0, Nat.zero_le _, rfl, by simp [many]⟩
      case round =>
        obtain ⟨j, hj, rfl, rfl⟩ := hrel
        by_cases hlt : j < n5
        · rcases hF5.at_ with h0 | ⟨bb, offb, rfl, _, hbb, _, ib⟩
          · omega
          obtain ⟨x0, _, xq, xn, xc, x2, xr, _⟩ := ib j hlt
          have hjl : j < its.length := by have := hl5.out; omega
          have hts := many_take_succ hjl
          have hprev : 0 < j → w5.cell? ⟨bb, offb + (j - 1) * 3, none⟩ = some (.int .i64 ((its.getD (j - 1) It.no).skip : Int)) := fun h => (ib (j - 1) (by omega)).1
          have hapj : 0 < j → 0 < (its.getD j It.no).skip → (its.getD (j - 1) It.no).skip = 0 := fun h1 h2 => by
            have := hap.out (j - 1) (by omega)
            rw [show j - 1 + 1 = j from by omega] at this
            exact this h2
          have hxl := xr.length
          have hb0 := hmt.out (j + 1)
          have hb1' := hmt.out j
          generalize its.getD j It.no = it at *
          generalize (its.getD (j - 1) It.no).skip = ps at *
          generalize hM : many (its.take j) = M at *
          rw [hts] at hb0
          replace hts := Lib.hid hts
          have hk0 : (0 : Int) ≤ (j : Int) := by omega
          have hk1 : (j : Int) < (n5 : Int) := by omega
          clear ib xr hM
          have hxn9 : it.many = if 0 < it.skip then it.skip else it.body.length + 7 := rfl
          by_cases hsk : 0 < it.skip
          · rw [if_pos hsk] at hxn9
            have hski : (0 : Int) < (it.skip : Int) := by omega
            have hsb : it.skip ≤ 1500 := by omega
            rw [hxn9] at hts
            replace hxn9 := Lib.hid hxn9
            by_cases hj0 : 0 < j
            · have hp0 := hprev hj0
              rw [hapj hj0 hsk] at hp0
              have hj0i : (0 : Int) < (j : Int) := by omega
              have hw1 : IntKind.i64.wrap ((j : Int) - 1) = (j : Int) - 1 := IntWalk.i64_in _ (by omega)
              have hw2 : (0 : Int) ≤ (j : Int) - 1 := by omega
              have hw3 : ((j : Int) - 1).toNat = j - 1 := by omega
              have hw4 : (j : Int) - 1 < (n5 : Int) := by omega
              clear hprev hapj
              go_wp2_with fail
              go_round
              case rel => exact ⟨j + 1, by omega, by go_num, by rw [hts.out]; go_num⟩
              case measure => simp [intOf] <;> omega
            · obtain rfl : j = 0 := by omega
              rw [Nat.zero_mul, Nat.add_zero] at x0 x2
              clear hprev hapj
              go_wp2_with fail
              go_round
              case rel => exact ⟨0 + 1, by omega, by go_num, by rw [hts.out]; go_num⟩
              case measure => simp [intOf] <;> omega
          · have hsk0 : it.skip = 0 := by omega
            rw [if_neg hsk] at hxn9
            rw [hsk0] at x0
            have hxb : xn ≤ 1500 := by omega
            rw [hxn9, hxl] at hts
            replace hxn9 := Lib.hid hxn9
            replace hxl := Lib.hid hxl
            replace hsk0 := Lib.hid hsk0
            clear hprev hapj
            go_wp2_with fail
            go_round
            case rel => exact ⟨j + 1, by omega, by go_num, by rw [hts.out]; go_num⟩
            case measure => simp [intOf] <;> omega
        · obtain rfl : j = n5 := by omega
          have hfin : many (its.take j) = tot (bss.take k) := by rw [List.take_of_length_le (by rw [hl5.out]; exact Nat.le_refl _), hsum.out, htk.out]
          rw [hfin]
          go_wp2_with fail
          go_ret
          exact ⟨by simp, B5⟩
end Go.Proofs.YtegbjlimiephlaaDoor
