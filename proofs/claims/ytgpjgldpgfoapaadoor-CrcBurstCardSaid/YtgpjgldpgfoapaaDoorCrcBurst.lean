/- The walk of package crc's law on turned bits. -/
import Derived.Test.YtgpjgldpgfoapaaDoorCrcMath3
import Derived.Test.YtgpjgldpgfoapaaDoorCrcLaws
namespace Go.Proofs.YtgpjgldpgfoapaaDoor
open Go.RowKit
set_option linter.unusedVariables false
set_option linter.unusedSimpArgs false

/-- a store into one's own row of bytes -/
theorem OwnB.stored {t : TypeId} {base : Nat} {w : World} {g n cap : Nat} {l : List UInt8} (h : OwnB t base w (.slice (some ⟨g, 0, none⟩) n cap) l) (i : Nat) (c : UInt8) :
    OwnB t base (w.setCell ⟨g, i, none⟩ (.int .u8 (c.toNat : Int))) (.slice (some ⟨g, 0, none⟩) n cap) (l.set i c) ∧ base ≤ g := by
  obtain ⟨⟨h1, h2⟩, hs⟩ := h
  have hn : l.length = n := by
    rcases h2 with ⟨h', _⟩ | ⟨g', cap', cur, h', _⟩
    · cases h'
    · cases h'; rfl
  have ho : w.ownsRow base t 1 (.slice (some ⟨g, 0, none⟩) n cap) l.length (bv l) := ⟨h1, h2⟩
  rw [hn] at ho
  refine ⟨⟨?_, by simpa using hs⟩, (ho.lt g rfl).1⟩
  have := (ho.stored i (.int .u8 (c.toNat : Int))).1
  rw [show (bv l).set i (.int .u8 (c.toNat : Int)) = bv (l.set i c) from by simp [bv, List.map_set]] at this
  simpa [hn] using this
theorem OwnB.cellAt {t : TypeId} {base : Nat} {w : World} {g n cap : Nat} {l : List UInt8} (h : OwnB t base w (.slice (some ⟨g, 0, none⟩) n cap) l) (i : Nat) (hi : i < l.length) :
    w.cell? ⟨g, i, none⟩ = some (.int .u8 ((l.getD i 0).toNat : Int)) ∧ w.frozen? ⟨g, i, none⟩ = false := by
  obtain ⟨⟨h1, h2⟩, hs⟩ := h
  have hn : l.length = n := by
    rcases h2 with ⟨h', _⟩ | ⟨g', cap', cur, h', _⟩
    · cases h'
    · cases h'; rfl
  have ho : w.ownsRow base t 1 (.slice (some ⟨g, 0, none⟩) n cap) l.length (bv l) := ⟨h1, h2⟩
  rw [hn] at ho
  refine ⟨?_, ho.frozenAt i⟩
  rw [ho.cellAt i (by omega)]
  simp [bv, List.getD, hi]

theorem mask_xor (c : UInt8) (p : Nat) : bits .xor .u8 (c.toNat : Int) (128 / 2 ^ (p % 8)) = ((c ^^^ Crc.mask p).toNat : Int) := by
  have hq : p % 8 < 8 := Nat.mod_lt _ (by omega)
  have e : Crc.mask p = UInt8.ofNat (2 ^ (7 - p % 8)) := rfl
  rw [e]
  generalize p % 8 = q at *
  have h8 : q = 0 ∨ q = 1 ∨ q = 2 ∨ q = 3 ∨ q = 4 ∨ q = 5 ∨ q = 6 ∨ q = 7 := by omega
  have hc := c.toNat_lt
  have go : ∀ m : Nat, m < 256 → bits .xor .u8 (c.toNat : Int) (m : Int) = ((c ^^^ UInt8.ofNat m).toNat : Int) := fun m hm => by
    rw [u8_xor_nat _ _ hc hm, UInt8.toNat_xor, UInt8.toNat_ofNat', Nat.mod_eq_of_lt hm]
  rcases h8 with rfl | rfl | rfl | rfl | rfl | rfl | rfl | rfl
  · exact go 128 (by omega)
  · exact go 64 (by omega)
  · exact go 32 (by omega)
  · exact go 16 (by omega)
  · exact go 8 (by omega)
  · exact go 4 (by omega)
  · exact go 2 (by omega)
  · exact go 1 (by omega)

theorem crcBurst_walk (b : Option Addr) (lb cb : Nat) (zb : List Int) (k : Int) (wk : 0 ≤ k ∧ k ≤ 65535) (s : Int) (ws : 0 ≤ s ∧ s ≤ 4294967295) (w : World) (hb : IsRow .u8 w b lb cb zb) (hT : Tab w) :
    Calls Tryd.prog 6 #[.slice b lb cb, .int .u16 k, .int .u32 s] w fun e w' => e = .returned (.bool true) ∧ Below w.heap.size w w' := by
  obtain ⟨N, rfl⟩ := Int.eq_ofNat_of_zero_le ws.1
  have hN : N < 4294967296 := by omega
  have hB := hb.bytes
  generalize bytesOf (zb.take lb) = xs at *
  clear hb ws
  have e1 : bits .and .u32 (N : Int) 16777215 = ((N % 16777216 : Nat) : Int) := by
    have := u32_and_nat N 16777215 (by omega) (by omega)
    rw [show N &&& 16777215 = N % 16777216 from Nat.and_two_pow_sub_one_eq_mod N 24] at this
    exact bits_at this rfl rfl
  have hM : N % 16777216 < 16777216 := Nat.mod_lt _ (by omega)
  generalize N % 16777216 = t at *
  by_cases h1 : 100 < lb
  · go_enter Tryd.func6, Tryd.ntmps6
    go_wp2_with fail
    refine (crc_awake _ hT).mono ?_; rintro e w1 ⟨rfl, hb1⟩
    go_wp2_with fail
    go_ret
    exact ⟨rfl, (by repeat (first | with_reducible exact Below.refl _ _ | with_reducible refine Below.trans ?_ (Below.mono hb9 (by (try simp) <;> omega)) | with_reducible refine Below.trans ?_ (Below.mono hb8 (by (try simp) <;> omega)) | with_reducible refine Below.trans ?_ (Below.mono hb7 (by (try simp) <;> omega)) | with_reducible refine Below.trans ?_ (Below.mono hb6 (by (try simp) <;> omega)) | with_reducible refine Below.trans ?_ (Below.mono hb5 (by (try simp) <;> omega)) | with_reducible refine Below.trans ?_ (Below.mono hb4 (by (try simp) <;> omega)) | with_reducible refine Below.trans ?_ (Below.mono hb3 (by (try simp) <;> omega)) | with_reducible refine Below.trans ?_ (Below.mono hb2 (by (try simp) <;> omega)) | with_reducible refine Below.trans ?_ (Below.mono hb1 (by (try simp) <;> omega)) | with_reducible refine Below.drew ?_ | with_reducible refine Below.alloc ?_ (by (try simp) <;> omega) _ | with_reducible refine Below.setCell ?_ (by (try simp) <;> omega) _))⟩
  by_cases h2 : t = 0
  · subst h2
    go_enter Tryd.func6, Tryd.ntmps6
    go_wp2_with fail
    refine (crc_awake _ hT).mono ?_; rintro e w1 ⟨rfl, hb1⟩
    go_wp2_with fail
    go_ret
    exact ⟨rfl, (by repeat (first | with_reducible exact Below.refl _ _ | with_reducible refine Below.trans ?_ (Below.mono hb9 (by (try simp) <;> omega)) | with_reducible refine Below.trans ?_ (Below.mono hb8 (by (try simp) <;> omega)) | with_reducible refine Below.trans ?_ (Below.mono hb7 (by (try simp) <;> omega)) | with_reducible refine Below.trans ?_ (Below.mono hb6 (by (try simp) <;> omega)) | with_reducible refine Below.trans ?_ (Below.mono hb5 (by (try simp) <;> omega)) | with_reducible refine Below.trans ?_ (Below.mono hb4 (by (try simp) <;> omega)) | with_reducible refine Below.trans ?_ (Below.mono hb3 (by (try simp) <;> omega)) | with_reducible refine Below.trans ?_ (Below.mono hb2 (by (try simp) <;> omega)) | with_reducible refine Below.trans ?_ (Below.mono hb1 (by (try simp) <;> omega)) | with_reducible refine Below.drew ?_ | with_reducible refine Below.alloc ?_ (by (try simp) <;> omega) _ | with_reducible refine Below.setCell ?_ (by (try simp) <;> omega) _))⟩
  have h2' : ((t : Int) == 0) = false := by rw [beq_eq_false_iff_ne]; omega
  have l1 := (Crc.sum xs).isLt
  have z2 := Crc.fits_sum xs
  have z1 := Crc.sum_put xs
  have LB := Lib.hid hB.length
  generalize hS : (Crc.sum xs).toNat = S at *
  have HS := Lib.hid hS; clear hS
  have HP := Lib.hid (crc_put S (by omega))
  have P3 := Lib.hid (Crc.put_length S)
  generalize hL : xs ++ Crc.put S = ys at *
  have HL := Lib.hid hL; clear hL
  have Z1 := Lib.hid z1; have Z2 := Lib.hid z2; clear z1 z2
  have tok1 : True := trivial
  have tok2 : True := trivial
  go_enter Tryd.func6, Tryd.ntmps6
  go_wp2_with fail
  refine (crc_awake _ hT).mono ?_; rintro e w1 ⟨rfl, hb1⟩
  have hB1 := hB.below hb1
  have O0 := OwnB.nil 5 w.heap.size w1
  go_wp2_with (at_builtin; have _t := tok1; refine append_bytes 23 5 info8 Tryd.underlying23 rfl _ _ rfl w.heap.size (.slice none 0 0) [] 0 rfl rfl O0 b lb cb xs rfl hB1 (by omega) hb1.size ?_; intro q1 c1 w2 hO1 hR1 hG1; clear tok1; simp only [Nat.zero_add, List.nil_append] at hO1 hR1 ⊢; have HB2 := hb1.grown hG1 hb1.size (fun k e => by cases e); clear hB1 O0)
  have hB2 := hB.below HB2
  have hT2 := hT.below HB2
  refine (crc_sum _ _ _ xs _ hT2 hB2).mono ?_; rintro e w' ⟨rfl, rfl⟩
  rw [HS.out]
  go_wp2_with fail
  refine (HP.out _).mono ?_; rintro e w3 ⟨rfl, hp, hb3, hz3⟩
  have HB3 : Below w.heap.size w w3 := HB2.trans (hb3.mono HB2.size)
  have hO2 := hO1.below hb3
  clear hB2 hT2 hG1 hb3
  go_wp2_with (at_builtin; have _t := tok2; refine append_bytes 23 5 info8 Tryd.underlying23 rfl _ _ rfl w.heap.size (.slice q1 lb c1) xs lb LB.out rfl hO2 (some ⟨w2.heap.size, 0, none⟩) 3 3 (Crc.put S) rfl hp (by omega) HB3.size ?_; intro q2 c2 w4 hO4 hR4 hG4; clear tok2; have HB4 := HB3.grown hG4 HB3.size (fun k hk => (hO2.owns.lt k hk).1); rw [HL.out] at hO4 hR4)
  have T4 := hT.below HB4
  refine (crc_fits _ _ _ ys _ T4 hR4).mono ?_; rintro e w5 ⟨rfl, hb5⟩
  rw [Z2.out]
  have HB5 : Below w.heap.size w w5 := HB4.trans (hb5.mono HB4.size)
  have hO5 := hO4.below hb5
  clear hR4 hO4 hG4 hO2 hp hO1 hR1 hb5 T4
  go_wp2_with fail
  have hk0 : 0 ≤ k % (((lb : Int) + 3) * 8 - 23) := Int.emod_nonneg _ (by omega)
  have hk1 : k % (((lb : Int) + 3) * 8 - 23) < ((lb : Int) + 3) * 8 - 23 := Int.emod_lt_of_pos _ (by omega)
  generalize k % (((lb : Int) + 3) * 8 - 23) = kk at *
  obtain ⟨kn, rfl⟩ := Int.eq_ofNat_of_zero_le hk0
  have hlen : ys.length = lb + 3 := by rw [← HL.out, List.length_append, LB.out, P3.out]
  have HLEN := Lib.hid hlen; clear hlen hk0
  have hk2 : kn + 24 ≤ 8 * (lb + 3) := by omega
  clear hk1
  obtain ⟨q, cap, hq, hrow, hat⟩ := hO5.row
  simp only [Value.slice.injEq] at hq
  obtain ⟨rfl, hq2, rfl⟩ := hq
  have hsome : ∃ g, q2 = some ⟨g, 0, none⟩ := by
    rcases hrow.at_ with h0 | ⟨g, off, rfl, _, _⟩
    · omega
    · have := (hat _ rfl).2.1
      simp only at this
      subst this
      exact ⟨g, rfl⟩
  obtain ⟨g, rfl⟩ := hsome
  clear hrow hat hq2
  go_loopw [12] (fun i wr => ∃ j : Nat, j ≤ 24 ∧ i = .int .i64 j ∧ OwnB 5 w.heap.size wr (.slice (some ⟨g, 0, none⟩) (lb + 3) c2) (Crc.flipTo ys t kn j) ∧ Below w.heap.size w wr) (fun i wr => 24 - (intOf i).toNat)
  case atStart => exact ⟨0, by omega, rfl, hO5, HB5⟩
  case round =>
    obtain ⟨j, hj, rfl, hO, HB⟩ := hrel
    clear hO5 HB5
    by_cases hj24 : j < 24
    · have hfl : (Crc.flipTo ys t kn j).length = lb + 3 := by rw [Crc.flipTo_length, HLEN.out]
      cases hbit : t.testBit j
      · have hv : bits .and .u32 ((t : Int) / 2 ^ j) 1 = 0 := by
          have := u32_and_nat (t / 2 ^ j) 1 (Nat.lt_of_le_of_lt (Nat.div_le_self _ _) (by omega)) (by omega)
          rw [Nat.and_one_is_mod, show t / 2 ^ j % 2 = 0 from by rw [Nat.testBit_eq_decide_div_mod_eq] at hbit; have := of_decide_eq_false hbit; omega] at this
          exact bits_at this (by simp) rfl
        have hnext : Hid (Crc.flipTo ys t kn (j + 1) = Crc.flipTo ys t kn j) := by
          simp only [Crc.flipTo, hbit]; exact Lib.hid rfl
        clear hbit hfl
        go_wp2_with fail
        go_roundw
        case rel => exact ⟨j + 1, by omega, by go_num, by rw [hnext.out]; exact hO, HB⟩
        case measure => simp [intOf]; omega
      · have hv : bits .and .u32 ((t : Int) / 2 ^ j) 1 = 1 := by
          have := u32_and_nat (t / 2 ^ j) 1 (Nat.lt_of_le_of_lt (Nat.div_le_self _ _) (by omega)) (by omega)
          rw [Nat.and_one_is_mod, show t / 2 ^ j % 2 = 1 from by rw [Nat.testBit_eq_decide_div_mod_eq] at hbit; exact of_decide_eq_true hbit] at this
          exact bits_at this (by simp) rfl
        have hnext : Hid (Crc.flipTo ys t kn (j + 1) = Crc.flip (Crc.flipTo ys t kn j) (kn + j)) := by
          simp only [Crc.flipTo, hbit]; exact Lib.hid rfl
        obtain ⟨hcell, hfro⟩ := hO.cellAt ((kn + j) / 8) (by omega)
        clear hbit hfl
        generalize hcc : (Crc.flipTo ys t kn j).getD ((kn + j) / 8) 0 = c at *
        have HCC := Lib.hid hcc; clear hcc
        go_wp2_with fail
        go_roundw
        case rel =>
          have hst := hO.stored ((kn + j) / 8) (c ^^^ Crc.mask (kn + j))
          refine ⟨j + 1, by omega, by go_num, ?_, HB.setCell hst.2 _⟩
          rw [mask_xor, hnext.out]
          have hfl : Crc.flip (Crc.flipTo ys t kn j) (kn + j) = (Crc.flipTo ys t kn j).set ((kn + j) / 8) (c ^^^ Crc.mask (kn + j)) := by
            unfold Crc.flip; rw [HCC.out]
          rw [hfl]; exact hst.1
        case measure => simp [intOf]; omega
    · obtain rfl : j = 24 := by omega
      have hfin := Crc.burst ys t kn hM h2 (by rw [HLEN.out]; omega) Z1.out
      have HF := Lib.hid hfin; clear hfin
      obtain ⟨q, cap, hq, hrow, hat⟩ := hO.row
      simp only [Value.slice.injEq] at hq
      obtain ⟨rfl, hq2, rfl⟩ := hq
      have hlf : (Crc.flipTo ys t kn 24).length = lb + 3 := by rw [Crc.flipTo_length, HLEN.out]
      rw [hlf] at hrow
      clear hlf hq2 hat
      generalize Crc.flipTo ys t kn 24 = zs at *
      go_wp2_with fail
      refine (crc_fits _ _ _ zs _ (hT.below HB) hrow).mono ?_; rintro e w6 ⟨rfl, hb6⟩
      rw [HF.out]
      have HB6 : Below w.heap.size w w6 := HB.trans (hb6.mono HB.size)
      go_wp2_with fail
      go_ret
      exact ⟨rfl, HB6⟩
end Go.Proofs.YtgpjgldpgfoapaaDoor
