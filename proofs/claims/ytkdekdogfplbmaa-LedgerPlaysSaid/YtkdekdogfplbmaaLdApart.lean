/- The walk of LedgerApart. -/
import Derived.Test.YtkdekdogfplbmaaLdLast
namespace Go.Proofs.Ytkdekdogfplbmaa
open Go.RowKit
set_option linter.unusedVariables false
set_option linter.unusedSimpArgs false
set_option maxRecDepth 20000
set_option maxHeartbeats 4000000

/-- a record's cells as one value -/
def rcA (r : Rc) : Value := .agg #[.int .u8 (r.kind : Int), .int .i64 0, .int .u64 0, .int .i64 r.at_, .int .i64 r.num, .int .i64 0, .bool r.yes, .string ⟨#[]⟩]
theorem neqR (W : World) (r : Rc) : (binOp .neq 50 (rcA r) (rcA r)).run Try.prog W = .ok (.bool false) W := by
  unfold rcA
  rw [run_neq_struct]
  simp [go_sem, Op.eqFields]
theorem ledgerApart_walk (p : Int) (hp : -9223372036854775808 ≤ p ∧ p ≤ 9223372036854775807) (a : Option Addr) (len cap : Nat) (cs : List (List Value)) (t : Int) (ht : -9223372036854775808 ≤ t ∧ t ≤ 9223372036854775807) (w : World) (z : RowG 5 w a len cs) (y : ∀ c ∈ cs, OkAll [.int .i64, .int .i64, .int .i64, .bool, .bool] c) :
    Calls Try.prog 10 #[.int .i64 p, .slice a len cap, .int .i64 t] w fun e w' => e = .returned (.bool true) ∧ Below w.heap.size w w' := by
  obtain ⟨l, hR, hok⟩ := acts_of z y
  clear z y
  have hll := hR.length
  rw [List.length_map] at hll
  have hsm : len ≤ 9223372036854775807 := by have := hR.small; unfold maxLen at this; omega
  have HLL := Lib.hid hll
  clear hll
  go_enter Try.func10, Try.ntmps10
  go_wp2_with fail
  refine (ld_awake _).mono ?_; rintro e w1 ⟨rfl, hb1⟩
  have z1 := hb1.size
  by_cases hl : 120 < len
  · go_wp2_with fail
    go_ret
    exact ⟨rfl, hb1⟩
  go_wp2_with fail
  refine (ledger_new p hp _).mono ?_; rintro e w2 ⟨rfl, hL2, hb2, z2⟩
  go_wp2_with fail
  refine (ledger_new p hp _).mono ?_; rintro e w3 ⟨rfl, hM3, hb3, z3⟩
  have hL3 := hL2.below hb3
  have B3 : Below w.heap.size w w3 := (hb1.trans (hb2.mono z1)).trans (hb3.mono (by omega))
  clear hL2
  go_wp2_with fail
  go_loopw [10] (fun i wr => ∃ (k : Nat) (s u : LS), k ≤ len ∧ i = .int .i64 k ∧ Alike t s u ∧ Led wr (w1.heap.size + 1) w1.heap.size k s ∧ Led wr (w2.heap.size + 1) w2.heap.size k u ∧ Below w.heap.size w wr) (fun i wr => len - (intOf i).toNat)
  case atStart => exact ⟨0, _, _, Nat.zero_le _, rfl, ⟨rfl, rfl, rfl⟩, hL3, hM3, B3⟩
  case round =>
    obtain ⟨k, s, u, hk, rfl, hA, hL, hM, hB⟩ := hrel
    have hz1 : w1.heap.size + 1 < wr.heap.size := hL.lt
    have hz2 : w2.heap.size + 1 < wr.heap.size := hM.lt
    have HL := Lib.hid hL; clear hL hL3
    have HM := Lib.hid hM; clear hM hM3
    have HA := Lib.hid hA; clear hA
    by_cases hlt : k < len
    · obtain ⟨ab, ao, rfl, hab, hat⟩ := RowA.at_ hR (by omega)
      have hac := (hat k hlt).turn (S := fun _ => False) (Turn.ofBelow hB rfl) hab (fun h => h)
      have hok1 := ok_getD hok (i := k) (by have := HLL.out; omega)
      clear hat
      generalize l.getD k acD = ac at *
      obtain ⟨k0, k1, k2, k3, k4⟩ := id hac
      have habr : ab < wr.heap.size := by have := hB.size; omega
      go_wp2_with fail
      refine (play_any _ _ _ _ ac hok1 _ HL.out (by omega)).mono ?_; rintro e w4 hs
      obtain ⟨q, c, rfl, hRC, hx, hL4, hT4, hcap⟩ := hs.done
      have z4 := hT4.size
      have B4 : Below w.heap.size w w4 := hB.trans (hT4.below (by omega) (fun k hk e => by omega))
      clear k0 k1 k2 k3 k4
      have hac4 := hac.turn hT4 habr (by omega)
      have hM4 := HM.out.turn hT4 (by omega) (by omega)
      obtain ⟨k0, k1, k2, k3, k4⟩ := id hac4
      have HL4 := Lib.hid hL4; clear hL4 hs hac
      have HM4 := Lib.hid hM4; clear hM4
      by_cases hsk : ac.at_ = t ∨ ac.fin = true
      · by_cases he : ac.at_ = t
        · have e1 : (ac.at_ != t) = false := by simpa using he
          have e2 : (ac.at_ == t) = true := by simpa using he
          have HRS := Lib.hid (alike_recs HA.out ac he)
          have HA5 := Lib.hid (alike_step HA.out ac (.inr he))
          clear he hsk
          go_wp2_with fail
          refine (play_any _ _ _ _ ac hok1 _ HM4.out (by omega)).mono ?_; rintro e w5 hs
          obtain ⟨q', c', rfl, hRC', hx', hM5, hT5, hcap'⟩ := hs.done
          rw [← HRS.out] at hRC' hcap' ⊢
          clear hs HRS
          have z5 := hT5.size
          have B5 : Below w.heap.size w w5 := B4.trans (hT5.below (by omega) (fun k hk e => by omega))
          have hL5 := HL4.out.turn hT5 (by omega) (by omega)
          have hRC5 := hRC.turn hT5 (fun x e h => by have := (hx x e).1; omega)
          clear k0 k1 k2 k3 k4 hRC
          obtain ⟨k0, k1, k2, k3, k4⟩ := hac4.turn hT5 (by omega) (by omega)
          clear hac4
          have HL5 := Lib.hid hL5; clear hL5
          have HM5 := Lib.hid hM5; clear hM5
          have HB5 := Lib.hid B5; clear B5
          have hpl := playR_len s ac
          generalize s.playR ac = rs at *
          go_wp2_with fail
          go_loopw [13] (fun i W => ∃ j : Nat, j ≤ rs.length ∧ i = .int .i64 j ∧ RowC W q rs.length rs ∧ RowC W q' rs.length rs ∧ Led W (w1.heap.size + 1) w1.heap.size (k + 1) (s.playS ac) ∧ Led W (w2.heap.size + 1) w2.heap.size (k + 1) (u.playS ac) ∧ Below w.heap.size w W) (fun i W => rs.length - (intOf i).toNat)
          case atStart => exact ⟨0, Nat.zero_le _, rfl, hRC5, hRC', HL5.out, HM5.out, HB5.out⟩
          case round =>
            obtain ⟨j, hj, rfl, hr1, hr2, hLW, hMW, hBW⟩ := hrel
            clear hRC5 hRC' HL5 HM5 HB5 k0 k1 k2 k3 k4
            have HLW := Lib.hid hLW; clear hLW
            have HMW := Lib.hid hMW; clear hMW
            have HR1 := Lib.hid hr1
            have HR2 := Lib.hid hr2
            by_cases hjl : j < rs.length
            · obtain ⟨b1, o1, rfl, hb1', hat1⟩ := hr1.at_ (by omega)
              obtain ⟨b2, o2, rfl, hb2', hat2⟩ := hr2.at_ (by omega)
              obtain ⟨c0, c1, c2, c3, c4, c5, c6, c7⟩ := hat1 j hjl
              obtain ⟨d0, d1, d2, d3, d4, d5, d6, d7⟩ := hat2 j hjl
              clear hat1 hat2 hr1 hr2
              generalize rs.getD j rcD = r at *
              have hne := fun W => neqR W r
              unfold rcA at hne
              have i0 : (0 : Int) ≤ (j : Int) := by omega
              have i1 : (j : Int) < (rs.length : Int) := by omega
              go_wp2_with fail
              go_quiet (fail)
              go_wp2_with fail
              go_roundw
              case rel => exact ⟨j + 1, by omega, by go_num, RowG.below HR1.out (below_dr (Below.refl _ _) _), RowG.below HR2.out (below_dr (Below.refl _ _) _), HLW.out.drewN _, HMW.out.drewN _, below_dr hBW _⟩
              case measure => simp [intOf]; omega
            · clear hr1 hr2
              go_wp2_with fail
              refine (ledger_said _ _ _ _ _ ht _ HLW.out).mono ?_; rintro e w' ⟨rfl, rfl⟩
              rw [HA5.out.2.2]
              go_wp2_with fail
              refine (ledger_said _ _ _ _ _ ht _ HMW.out).mono ?_; rintro e w' ⟨rfl, rfl⟩
              generalize (u.playS ac).said t = o at *
              go_wp2_with fail
              go_roundw
              case rel => exact ⟨k + 1, _, _, by omega, by go_num, HA5.out, HLW.out, HMW.out, hBW⟩
              case measure => simp [intOf]; omega
        · have e1 : (ac.at_ != t) = true := by simpa using he
          have e2 : (ac.at_ == t) = false := by simpa using he
          have hf : ac.fin = true := hsk.resolve_left he
          have HA5 := Lib.hid (alike_step HA.out ac (.inl hf))
          rw [hf] at k4
          clear he hsk
          have HF := Lib.hid hf
          clear hf
          go_wp2_with fail
          have hp5 := play_any (w2.heap.size + 1) w2.heap.size k u ac hok1 w4 HM4.out (by omega)
          rw [HF.out] at hp5
          refine hp5.mono ?_; rintro e w5 hs
          obtain ⟨q', c', rfl, hRC', hx', hM5, hT5, hcap'⟩ := hs.done
          have z5 := hT5.size
          have B5 : Below w.heap.size w w5 := B4.trans (hT5.below (by omega) (fun k hk e => by omega))
          have hL5 := HL4.out.turn hT5 (by omega) (by omega)
          clear k0 k1 k2 k3 k4 hRC hRC' hs hp5
          obtain ⟨k0, k1, k2, k3, k4⟩ := hac4.turn hT5 (by omega) (by omega)
          have HL5 := Lib.hid hL5; clear hL5
          have HM5 := Lib.hid hM5; clear hM5
          go_wp2_with fail
          go_roundw
          case rel => exact ⟨k + 1, _, _, by omega, by go_num, HA5.out, HL5.out, HM5.out, B5⟩
          case measure => simp [intOf]; omega
      · have he : ¬ ac.at_ = t := fun e => hsk (.inl e)
        have hf : ac.fin = false := by simpa using fun e => hsk (.inr e)
        have e1 : (ac.at_ != t) = true := by simpa using he
        have e2 : (ac.at_ == t) = false := by simpa using he
        have HS := Lib.hid (alike_skip HA.out ac hf he)
        rw [hf] at k4
        clear he hsk hf
        go_wp2_with fail
        go_roundw
        case rel => exact ⟨k + 1, _, _, by omega, by go_num, HS.out, HL4.out, HM4.out.mono (by omega), B4⟩
        case measure => simp [intOf]; omega
    · have hd := HA.out.2.1
      have HD := Lib.hid hd
      clear hd
      go_wp2_with fail
      refine (ledger_done _ _ _ _ _ HL.out).mono ?_; rintro e w' ⟨rfl, rfl⟩
      rw [HD.out]
      go_wp2_with fail
      refine (ledger_done _ _ _ _ _ HM.out).mono ?_; rintro e w' ⟨rfl, rfl⟩
      go_wp2_with fail
      go_ret
      exact ⟨by simp, hB⟩
end Go.Proofs.Ytkdekdogfplbmaa
