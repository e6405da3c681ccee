/- The walk of OctetBack. -/
import Derived.Test.YtdondjodonmebaaOctAwake
import Derived.Test.YtdondjodonmebaaOctBackLaw
import Derived.Test.YtdondjodonmebaaOctOpen
import Derived.IntWalk
import Derived.Test.YtdondjodonmebaaChecked
import Derived.Test.YtdondjodonmebaaRows
namespace Go.Proofs.Ytdondjodonmebaa
open Go.RowKit
set_option linter.unusedVariables false
set_option linter.unusedSimpArgs false
set_option maxHeartbeats 2000000
set_option maxRecDepth 20000
theorem octetBack_walk (a : Option Addr) (len cap : Nat) (zs0 : List Int) (a1 : Option Addr) (len1 cap1 : Nat) (ts : List ByteArray) (c : Int) (bc : 0 ≤ c ∧ c ≤ 65535) (w : World) (h0 : IsRow .u64 w a len cap zs0) (hT : RowT w a1 len1 ts) :
    Calls Try.prog 6 #[.slice a len cap, .slice a1 len1 cap1, .int .u16 c] w fun e w' => e = .returned (.bool true) ∧ Below w.heap.size w w' := by
  have hU := h0.row
  generalize zs0.take len = us at *
  clear h0
  obtain ⟨cn, rfl⟩ := Int.eq_ofNat_of_zero_le bc.1
  have hm : len ≤ 9223372036854775807 := by have := hU.small; unfold maxLen at this; omega
  have hm1 : len1 ≤ 9223372036854775807 := by have := hT.small; unfold maxLen at this; omega
  have LU := Lib.hid hU.length
  have LT := Lib.hid hT.length
  go_enter Try.func6, Try.ntmps6
  go_wp2_with fail
  refine (awake_any _).mono ?_; rintro e w1 ⟨rfl, hb1⟩
  have hU1 := hU.below hb1
  have hT1 := hT.below hb1
  by_cases hl : 60 < len
  · go_wp2_with fail
    go_ret
    exact ⟨rfl, hb1⟩
  by_cases hl1 : 30 < len1
  · go_wp2_with fail
    all_goals (first | (go_ret; exact ⟨rfl, hb1⟩) | (exfalso; omega))
  go_wp2_with fail
  go_loop [8] (fun i => ∃ j : Nat, j ≤ len1 ∧ i = .int .i64 j ∧ ∀ t ∈ ts.take j, t.size ≤ 400) (fun i => len1 - (intOf i).toNat)
  case atStart => exact ⟨0, Nat.zero_le _, rfl, by simp⟩
  case round =>
    obtain ⟨j, hj, rfl, hall⟩ := hrel
    by_cases hlt : j < len1
    · rcases hT1.at_ with h0 | ⟨b, off, rfl, hlb, hc⟩
      · omega
      have ck := hc j hlt
      have hkl : j < ts.length := by have := LT.out; omega
      have h2 : ∀ t ∈ ts.take (j + 1), t ∈ ts.take j ∨ t = ts.getD j ⟨#[]⟩ := by
        intro t ht
        rw [List.take_succ_eq_append_getElem hkl] at ht
        rcases List.mem_append.1 ht with h | h
        · exact .inl h
        · exact .inr (by rw [List.mem_singleton.1 h]; simp [List.getD, hkl])
      have hok := hT1.ok (ts.getD j ⟨#[]⟩) (by simp [List.getD, hkl])
      have hok' : (ts.getD j ⟨#[]⟩).size ≤ 9223372036854775807 := by unfold maxLen at hok; omega
      generalize ts.getD j ⟨#[]⟩ = t at *
      clear hc hok
      by_cases hbig : 400 < t.size
      · go_wp2_with fail
        go_ret
        exact ⟨rfl, hb1⟩
      replace h2 := Lib.hid h2
      go_wp2_with fail
      go_round
      case rel => exact ⟨j + 1, by omega, by go_num, fun t' ht => (h2.out t' ht).elim (hall t') (fun e => by rw [e]; omega)⟩
      case measure => simp [intOf] <;> omega
    · obtain rfl : j = len1 := by omega
      rw [List.take_of_length_le (by rw [LT.out]; exact Nat.le_refl _)] at hall
      have lB : (encAll us ++ encTexts ts).length ≤ 100000 := by
        have h1 := encAll_le us
        have h2 := encTexts_le ts (fun s hs => by have := hall s hs; omega)
        have h3 := LU.out
        have h4 := LT.out
        rw [List.length_append]; omega
      have tok1 : True := trivial
      go_wp2_with fail
      refine (puts_any a len cap us w1 hU1 (by omega)).mono ?_; rintro e w2 ⟨v2, rfl, hO2, hb2⟩
      have B2 := hb1.trans (hb2.mono hb1.size)
      have lb := hO2.owns.lt
      go_wp2_with fail
      refine (texts_any a1 j cap1 ts w2 (hT.below B2) (by omega) (fun s hs => by have := hall s hs; omega)).mono ?_; rintro e w3 ⟨v3, rfl, hO3, hb3⟩
      have B3 := B2.trans (hb3.mono B2.size)
      have hO2' := Lib.hid (hO2.below hb3)
      obtain ⟨q3, c3, rfl, hR3, _⟩ := hO3.row
      rw [List.length_append] at lB
      clear hO2 hO3
      replace hR3 := Lib.hid hR3
      go_wp2_with (at_builtin; have _t := tok1; refine append_bytes 27 5 info8 Try.underlying27 rfl _ _ rfl w1.heap.size v2 (encAll us) (encAll us).length rfl rfl hO2'.out q3 (encTexts ts).length c3 (encTexts ts) rfl hR3.out (by omega) (Nat.le_trans hb2.size hb3.size) ?_; intro q4 c4 w4 hO4 hR4 hG4; clear tok1; have B4 : Below w.heap.size w w4 := B3.grown hG4 B3.size (fun k hk => by have := (lb k hk).1; have := hb1.size; omega); clear hO4 hG4)
      rw [← List.length_append] at hR4 lB ⊢
      obtain ⟨N, hN⟩ : ∃ N, (encAll us ++ encTexts ts).length = N := ⟨_, rfl⟩
      rw [hN] at hR4 lB ⊢
      replace hN := Lib.hid hN
      have z4 := B4.size
      have H4 := Lib.hid hR4
      have hc4 := hR4.le
      refine (open_any q4 _ c4 _ w4 hR4 (by omega)).mono ?_; rintro e w5 ⟨g, rfl, hg, hRd, hb5⟩
      have B5 := B4.trans (hb5.mono z4)
      have hg0 : w.heap.size ≤ g := Nat.le_trans z4 hg
      have H5 := Lib.hid (hR4.below hb5)
      clear hR4
      go_wp2_with fail
      go_loopw [11] (fun i wr => ∃ k : Nat, k ≤ len ∧ i = .int .i64 k ∧ Rd wr g (encAll (us.drop k) ++ encTexts ts) 0 ∧ Below w.heap.size w wr ∧ Below w4.heap.size w4 wr) (fun i wr => len - (intOf i).toNat)
      case atStart => exact ⟨0, Nat.zero_le _, rfl, hRd, B5, hb5⟩
      case round =>
        obtain ⟨k, hk, rfl, hRd, hbr, hb4r⟩ := hrel
        have zr := hbr.size
        by_cases hlt : k < len
        · rcases hU.at_ with h0 | ⟨b, off, rfl, hlb, hc⟩
          · omega
          have ck0 := hc k hlt
          obtain ⟨g1, g2⟩ := range_u64 hU.wf k
          rw [encAll_drop (by have := LU.out; omega)] at hRd
          generalize us.getD k 0 = z at *
          obtain ⟨x, rfl⟩ := Int.eq_ofNat_of_zero_le g1
          rw [Int.toNat_natCast] at hRd
          have NE := Lib.hid (num_enc (u := x) (by omega) (encAll (us.drop (k + 1)) ++ encTexts ts))
          clear hc
          go_wp2_with fail
          refine (num_any g _ 0 wr hRd).mono ?_; rintro e w6 ⟨rfl, hR6, hG6⟩
          have B6 : Below w.heap.size w w6 := hbr.grown hG6 zr (fun k e => by cases e; exact hg0)
          have B46 : Below w4.heap.size w4 w6 := hb4r.grown hG6 hb4r.size (fun k e => by cases e; exact hg)
          rw [NE.out] at hR6 ⊢
          have ck := (B6.cell (p := ⟨b, off + k, none⟩) hlb).trans ck0
          clear hRd hG6 ck0
          have hk0 : (0 : Int) ≤ (k : Int) := by omega
          have hk1 : (k : Int) < (len : Int) := by omega
          go_wp2_with fail
          go_roundw
          case rel => exact ⟨k + 1, by omega, by go_num, hR6, B6, B46⟩
          case measure => simp [intOf] <;> omega
        · obtain rfl : k = len := by omega
          rw [List.drop_eq_nil_of_le (by rw [LU.out]; exact Nat.le_refl _)] at hRd
          have hRd' : Rd wr g (encTexts ts) 0 := hRd
          clear hRd
          go_wp2_with fail
          go_loopw [13] (fun i wr => ∃ n : Nat, n ≤ j ∧ i = .int .i64 n ∧ Rd wr g (encTexts (ts.drop n)) 0 ∧ Below w.heap.size w wr ∧ Below w4.heap.size w4 wr) (fun i wr => j - (intOf i).toNat)
          case atStart => exact ⟨0, Nat.zero_le _, rfl, hRd', hbr, hb4r⟩
          case round =>
            obtain ⟨n, hn, rfl, hRd, hbr, hb4r⟩ := hrel
            have zr := hbr.size
            by_cases hlt : n < j
            · rcases hT.at_ with h0 | ⟨b, off, rfl, hlb, hc⟩
              · omega
              have ck0 := hc n hlt
              have hkl : n < ts.length := by have := LT.out; omega
              have hsz : (ts.getD n ⟨#[]⟩).size ≤ 400 := hall _ (by simp [List.getD, hkl])
              rw [encTexts_drop hkl] at hRd
              generalize ts.getD n ⟨#[]⟩ = t at *
              have hsl : t.data.toList.length = t.size := by rw [Array.length_toList]; rfl
              have NE := Lib.hid (text_enc t (by omega) (encTexts (ts.drop (n + 1))) 400)
              clear hc
              go_wp2_with fail
              refine (text_any g _ 0 400 (by omega) wr hRd).mono ?_; rintro e w6 ⟨rfl, hR6, hG6⟩
              have B6 : Below w.heap.size w w6 := hbr.grown hG6 zr (fun k e => by cases e; exact hg0)
              have B46 : Below w4.heap.size w4 w6 := hb4r.grown hG6 hb4r.size (fun k e => by cases e; exact hg)
              rw [NE.out, if_neg (by omega)] at hR6 ⊢
              rw [back_toArray t]
              have ck := (B6.cell (p := ⟨b, off + n, none⟩) hlb).trans ck0
              clear hRd hG6 ck0 NE
              have hk0 : (0 : Int) ≤ (n : Int) := by omega
              have hk1 : (n : Int) < (j : Int) := by omega
              go_wp2_with fail
              go_roundw
              case rel => exact ⟨n + 1, by omega, by go_num, hR6, B6, B46⟩
              case measure => simp [intOf] <;> omega
            · obtain rfl : n = j := by omega
              rw [List.drop_eq_nil_of_le (by rw [LT.out]; exact Nat.le_refl _)] at hRd
              have hRd' : Rd wr g [] 0 := hRd
              clear hRd
              go_wp2_with fail
              refine (end_any g [] 0 wr hRd').mono ?_; rintro e w' ⟨rfl, rfl⟩
              rw [show endOf [] 0 = 0 from rfl]
              go_wp2_with fail
              refine (left_any g [] 0 wr hRd').mono ?_; rintro e w' ⟨rfl, rfl⟩
              rw [show (([] : List UInt8).length : Int) = 0 from rfl]
              clear hRd'
              by_cases hz : N = 0
              · subst hz
                have hz2 := hN.out
                rw [List.length_append] at hz2
                have hu0 : us = [] := encAll_nil (by omega)
                have ht0 : ts = [] := encTexts_nil (by omega)
                obtain rfl : k = 0 := by have := LU.out; rw [hu0] at this; exact this.symm
                obtain rfl : n = 0 := by have := LT.out; rw [ht0] at this; exact this.symm
                clear hu0 ht0 hz2
                go_wp2_with fail
                go_ret
                exact ⟨by simp, hbr⟩
              have hzp : 0 < N := by omega
              have H6 := Lib.hid (H4.out.below hb4r)
              have hlt := Nat.mod_lt cn hzp
              have hm0 : (0 : Int) ≤ (cn : Int) % (N : Int) := by omega
              have hm1 : (cn : Int) % (N : Int) ≤ (c4 : Int) := by omega
              have hm2 : ((cn : Int) % (N : Int)).toNat = cn % N := by omega
              have hzn : (N == 0) = false := by simpa using hz
              have hzi : ((N : Int) == 0) = false := by rw [beq_eq_false_iff_ne]; omega
              rcases H6.out.at_ with h0 | ⟨bq, oq, rfl, _, _⟩
              · omega
              go_wp2_with fail
              refine (open_any _ (cn % N) c4 _ wr (H6.out.take (by omega)) (by omega)).mono ?_; rintro e w6 ⟨g2, rfl, hg2, hRd2, hb6⟩
              have B6 := hbr.trans (hb6.mono zr)
              have hg20 : w.heap.size ≤ g2 := Nat.le_trans zr hg2
              have C6 : Cut ((encAll us ++ encTexts ts).take (cn % N)) 0 (encAll us ++ encTexts ts) := .inr ⟨rfl, cn % N, by rw [hN.out]; exact hlt, rfl⟩
              generalize (encAll us ++ encTexts ts).take (cn % N) = p0 at *
              go_wp2_with fail
              go_loopw [16] (fun i wr => ∃ m : Nat, m ≤ k ∧ i = .int .i64 m ∧ (∃ p e, Rd wr g2 p e ∧ Cut p e (encAll (us.drop m) ++ encTexts ts)) ∧ Below w.heap.size w wr) (fun i wr => k - (intOf i).toNat)
              case atStart => exact ⟨0, Nat.zero_le _, rfl, ⟨p0, 0, hRd2, C6⟩, B6⟩
              case round =>
                clear hRd2 C6 hlt hm0 hm1 hm2 hzn hzi
                obtain ⟨m, hm, rfl, ⟨p, e, hRd, hC⟩, hbr⟩ := hrel
                have zr := hbr.size
                by_cases hlt : m < k
                · have hx := (range_u64 hU.wf m)
                  rw [encAll_drop (by have := LU.out; omega)] at hC
                  have hC' := cut_num (by omega) hC
                  replace hC' := Lib.hid hC'
                  clear hC
                  go_wp2_with fail
                  refine (num_any g2 p e wr hRd).mono ?_; rintro x w7 ⟨rfl, hR7, hG7⟩
                  have B7 : Below w.heap.size w w7 := hbr.grown hG7 zr (fun k e => by cases e; exact hg20)
                  go_wp2_with fail
                  go_roundw
                  case rel => exact ⟨m + 1, by omega, by go_num, ⟨_, _, hR7, hC'.out⟩, B7⟩
                  case measure => simp [intOf] <;> omega
                · obtain rfl : m = k := by omega
                  rw [List.drop_eq_nil_of_le (by rw [LU.out]; exact Nat.le_refl _)] at hC
                  have hC2 : Cut p e (encTexts ts) := hC
                  clear hC
                  go_wp2_with fail
                  go_loopw [17] (fun i wr => ∃ m : Nat, m ≤ n ∧ i = .int .i64 m ∧ (∃ p e, Rd wr g2 p e ∧ Cut p e (encTexts (ts.drop m))) ∧ Below w.heap.size w wr) (fun i wr => n - (intOf i).toNat)
                  case atStart => exact ⟨0, Nat.zero_le _, rfl, ⟨p, e, hRd, hC2⟩, hbr⟩
                  case round =>
                    clear hRd hC2
                    obtain ⟨l, hl', rfl, ⟨p, e, hRd, hC⟩, hbr⟩ := hrel
                    have zr := hbr.size
                    by_cases hlt : l < n
                    · have hkl : l < ts.length := by have := LT.out; omega
                      have hsz : (ts.getD l ⟨#[]⟩).size ≤ 400 := hall _ (by simp [List.getD, hkl])
                      rw [encTexts_drop hkl] at hC
                      have hC' := cut_text hsz hC
                      replace hC' := Lib.hid hC'
                      clear hC hsz
                      go_wp2_with fail
                      refine (text_any g2 p e 400 (by omega) wr hRd).mono ?_; rintro x w7 ⟨rfl, hR7, hG7⟩
                      have B7 : Below w.heap.size w w7 := hbr.grown hG7 zr (fun k e => by cases e; exact hg20)
                      go_wp2_with fail
                      go_roundw
                      case rel => exact ⟨l + 1, by omega, by go_num, ⟨_, _, hR7, hC'.out⟩, B7⟩
                      case measure => simp [intOf] <;> omega
                    · obtain rfl : l = n := by omega
                      rw [List.drop_eq_nil_of_le (by rw [LT.out]; exact Nat.le_refl _)] at hC
                      obtain ⟨rfl, rfl⟩ := cut_end hC
                      clear hC
                      go_wp2_with fail
                      refine (err_any g2 [] 10 wr hRd).mono ?_; rintro e w' ⟨rfl, rfl⟩
                      go_wp2_with fail
                      refine (left_any g2 [] 10 wr hRd).mono ?_; rintro e w' ⟨rfl, rfl⟩
                      rw [show (([] : List UInt8).length : Int) = 0 from rfl]
                      go_wp2_with fail
                      go_ret
                      exact ⟨rfl, hbr⟩
end Go.Proofs.Ytdondjodonmebaa
