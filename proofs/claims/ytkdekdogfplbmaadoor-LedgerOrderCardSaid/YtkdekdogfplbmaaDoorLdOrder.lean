/- The walk of LedgerOrder. -/
import Derived.Test.YtkdekdogfplbmaaDoorLdPlay
import Derived.Test.YtkdekdogfplbmaaDoorLdOrdM
import Derived.Test.YtkdekdogfplbmaaDoorRecMay
import Derived.BigQuiet
import Derived.Deep.QuietTactic
namespace Go.Proofs.YtkdekdogfplbmaaDoor
open Go.RowKit
set_option linter.unusedVariables false
set_option linter.unusedSimpArgs false
set_option maxRecDepth 20000
set_option maxHeartbeats 4000000

theorem below_dr {B : Nat} {a w : World} (h : Below B a w) (n : Nat) : Below B a (w.drewN n) := h.trans ⟨rfl, rfl, rfl, Nat.le_refl _, fun _ _ => rfl⟩
theorem rc_getD {l : List Rc} {i : Nat} (hi : i < l.length) : l.getD i rcD = l[i] := by simp [List.getD, hi]
def rcA (r : Rc) : Value := .agg #[.int .u8 (r.kind : Int), .int .i64 0, .int .u64 0, .int .i64 r.at_, .int .i64 r.num, .int .i64 0, .bool r.yes, .string ⟨#[]⟩]
theorem may_rc (r : Rc) (hk : r.kind < 256) (hm : mayB (toRec r) = true) (w : World) (hT : Forms 0 w) : Calls Tryd.prog 7 #[rcA r] w fun e w' => e = .returned (.bool true) ∧ Below w.heap.size w w' := by
  have h := may_any (toRec r) w hT (by simp [toRec])
  rw [hm] at h
  have e : recA (toRec r) = rcA r := by
    unfold recA rcA toRec
    simp only [UInt8.toNat_ofNat']
    rw [Nat.mod_eq_of_lt (show r.kind < 2 ^ 8 from hk)]
    rfl
  rw [e] at h
  exact h
theorem ledgerOrder_walk (p : Int) (hp : -9223372036854775808 ≤ p ∧ p ≤ 9223372036854775807) (a : Option Addr) (len cap : Nat) (cs : List (List Value)) (w : World) (z : RowG 5 w a len cs) (y : ∀ c ∈ cs, OkAll [.int .i64, .int .i64, .int .i64, .bool, .bool] c) (hT : Forms 0 w) :
    Calls Tryd.prog 3 #[.int .i64 p, .slice a len cap] w fun e w' => e = .returned (.bool true) ∧ Below w.heap.size w w' := by
  obtain ⟨l, hR, hok⟩ := acts_of z y
  clear z y
  have hll := hR.length
  rw [List.length_map] at hll
  have hsm : len ≤ 9223372036854775807 := by have := hR.small; unfold maxLen at this; omega
  have HLL := Lib.hid hll
  have HT := Lib.hid hT
  clear hll hT
  go_enter Tryd.func3, Tryd.ntmps3
  go_wp2_with fail
  refine (ld_awake _).mono ?_; rintro e w1 ⟨rfl, hb1⟩
  have z1 := hb1.size
  by_cases hl : 120 < len
  · go_wp2_with fail
    go_ret
    exact ⟨rfl, hb1⟩
  go_wp2_with fail
  refine (ledger_new p hp _).mono ?_; rintro e w2 ⟨rfl, hL2, hb2, z2⟩
  have B2 : Below w.heap.size w w2 := hb1.trans (hb2.mono z1)
  go_wp2_with fail
  go_loopw [7, 8] (fun la i wr => ∃ (k : Nat) (s : LS), k ≤ len ∧ i = .int .i64 k ∧ la = .int .i64 s.done ∧ OrdJ s ∧ Led wr (w1.heap.size + 1) w1.heap.size k s ∧ Below w.heap.size w wr) (fun la i wr => len - (intOf i).toNat)
  case atStart => exact ⟨0, LS.new p, Nat.zero_le _, rfl, rfl, ordJ_new p, hL2, B2⟩
  case round =>
    obtain ⟨k, s, hk, rfl, rfl, hJ, hL, hB⟩ := hrel
    have hz3 : w1.heap.size + 1 < wr.heap.size := hL.lt
    have HJ := Lib.hid hJ; clear hJ
    have HL := Lib.hid hL; clear hL hL2
    by_cases hlt : k < len
    · obtain ⟨ab, ao, rfl, hab, hat⟩ := RowA.at_ hR (by omega)
      have hac := (hat k hlt).turn (S := fun _ => False) (Turn.ofBelow hB rfl) hab (fun h => h)
      have hok1 := ok_getD hok (i := k) (by have := HLL.out; omega)
      have HAT := Lib.hid hat
      clear hat
      generalize l.getD k acD = ac at *
      obtain ⟨k0, k1, k2, k3, k4⟩ := id hac
      have habr : ab < wr.heap.size := by have := hB.size; omega
      go_wp2_with fail
      refine (play_any _ _ _ _ ac hok1 _ HL.out (by omega)).mono ?_; rintro e w3 hs
      obtain ⟨q, c, rfl, hRC, hx, hL3, hT3, hcap⟩ := hs.done
      have z3 := hT3.size
      have B3 : Below w.heap.size w w3 := hB.trans (hT3.below (by omega) (fun k hk e => by omega))
      clear k0 k1 k2 k3 k4
      have hl3 := playR_len s ac
      have hF := ordF_step HJ.out ac
      have HJ2 := Lib.hid (ordJ_step HJ.out ac)
      have HF := Lib.hid hF
      have HL3 := Lib.hid hL3
      have HB3 := Lib.hid B3
      clear hF hs hL3 B3 hac HL
      have hz4 : 0 ≤ ac.at_ ∨ True := .inr trivial
      clear hz4
      generalize s.playR ac = rs at *
      go_wp2_with fail
      go_loopw [7, 10] (fun la i W => ∃ j : Nat, j ≤ rs.length ∧ i = .int .i64 j ∧ la = .int .i64 (lastK s.done ac.at_ rs j) ∧ RowC W q rs.length rs ∧ Led W (w1.heap.size + 1) w1.heap.size (k + 1) (s.playS ac) ∧ Below w.heap.size w W) (fun la i W => rs.length - (intOf i).toNat)
      case atStart => exact ⟨0, Nat.zero_le _, rfl, rfl, hRC, HL3.out, HB3.out⟩
      case round =>
        obtain ⟨j, hj, rfl, rfl, hr, hLW, hBW⟩ := hrel
        clear hRC HL3 HB3
        have HLW := Lib.hid hLW; clear hLW
        have HBW := Lib.hid hBW; clear hBW
        have HR := Lib.hid hr
        by_cases hjl : j < rs.length
        · obtain ⟨rb, ro, rfl, hrb, hrat⟩ := hr.at_ (by omega)
          have hr1 := hrat j hjl
          rw [rc_getD hjl] at hr1
          obtain ⟨f1, f2, f3, f4⟩ := HF.out.each j hjl
          have F5 := Lib.hid (HF.out.fin j hjl)
          have F6 := Lib.hid (HF.out.no j hjl)
          have HRAT := Lib.hid hrat
          have HTW := Lib.hid (HT.out.below HBW.out)
          have HM := Lib.hid f3
          have HG := Lib.hid f4
          clear hrat hr f3 f4
          obtain ⟨c0, c1, c2, c3, c4, c5, c6, c7⟩ := hr1
          have hmay := fun W h => may_rc rs[j] HG.out HM.out W h
          unfold rcA at hmay
          have HMAY := Lib.hid hmay
          clear hmay
          generalize hlk : lastK s.done ac.at_ rs j = la at *
          have HLK := Lib.hid hlk
          clear hlk
          generalize hrj : rs[j] = r at *
          have HRJ := Lib.hid hrj
          clear hrj
          obtain ⟨kd, ra, num, yes⟩ := r
          simp only at c0 c3 c4 c6 f1 f2
          have e1 : ¬ ra < 0 := by omega
          have e2 : ¬ ra < la := by omega
          go_wp2_with fail
          refine (HMAY.out _ HTW.out).mono ?_; rintro e w5 ⟨rfl, hb5⟩
          have D5 := Turn.ofBelow (S := fun _ => False) hb5 rfl
          replace c0 := (hb5.cell (p := ⟨rb, ro + j * 8, none⟩) hrb).trans c0
          replace c3 := (hb5.cell (p := ⟨rb, ro + j * 8 + 3, none⟩) hrb).trans c3
          clear c1 c2 c4 c5 c6 c7
          have HR5 := Lib.hid (RowC.turn HR.out D5 (fun _ _ h => h))
          have HL5 := Lib.hid (HLW.out.below hb5)
          have HB5 := Lib.hid (HBW.out.trans (hb5.mono HBW.out.size))
          by_cases hkd : kd = 30
          · subst hkd
            obtain ⟨g1, g2, g3, g4, g5, g6⟩ := F5.out rfl
            (try simp only at g1 g5 g6)
            have hn := (HRAT.out (j + 1) g2).turn D5 hrb (fun h => h)
            rw [rc_getD g2] at hn
            have n0 := hn.c0
            have n3 := hn.c3
            rw [g4] at n0
            rw [g5] at n3
            have HG6 := Lib.hid g6
            clear hn g4 g5 g6
            have q0 : ¬ ra ≤ la := by omega
            have q1 : ((j : Int) != (rs.length : Int) - 2) = false := by rw [bne_eq_false_iff_eq]; omega
            have q2 : ((j : Int) == (rs.length : Int) - 2) = true := by rw [beq_iff_eq]; omega
            have q4 : (0 : Int) ≤ (j : Int) := by omega
            have q5 : (j : Int) < (rs.length : Int) := by omega
            have q6 : (0 : Int) ≤ (j : Int) + 1 := by omega
            have q7 : (j : Int) + 1 < (rs.length : Int) := by omega
            have q8 : ((j : Int) + 1).toNat = j + 1 := by omega
            have q9 : IntKind.i64.wrap ((rs.length : Int) - 2) = (rs.length : Int) - 2 := IntWalk.i64_in _ (by omega)
            have qa : IntKind.i64.wrap ((j : Int) + 1) = (j : Int) + 1 := IntWalk.i64_in _ (by omega)
            have HG3 := Lib.hid g3
            clear g3
            go_wp2_with fail
            go_quiet (fail)
            clear q8 q9 qa
            go_wp2_with fail
            go_roundw
            case rel => exact ⟨j + 1, by omega, by go_num, by rw [HG6.out], RowC.turn HR5.out (Turn.ofBelow (S := fun _ => False) (below_dr (Below.refl _ _) nq) rfl) (fun _ _ h => h), HL5.out.below (below_dr (Below.refl _ _) nq), below_dr HB5.out nq⟩
            case measure => simp [intOf]; omega
          · have q0 : ((kd : Int) == 30) = false := by rw [beq_eq_false_iff_ne]; omega
            have HF6 := Lib.hid (F6.out hkd)
            clear hkd
            go_wp2_with fail
            go_roundw
            case rel => exact ⟨j + 1, by omega, by go_num, by rw [HF6.out], HR5.out, HL5.out, HB5.out⟩
            case measure => simp [intOf]; omega
        · have hla : lastK s.done ac.at_ rs j = (s.playS ac).done := by
            rw [show j = rs.length by omega]; exact HF.out.all
          have HJ3 := HJ2.out
          have hdr := HLW.out.rg
          rw [hla]
          clear hr hla
          go_wp2_with fail
          go_loop [11] (fun i => ∃ j2 : Nat, j2 ≤ k + 1 ∧ i = .int .i64 j2) (fun i => k + 1 - (intOf i).toNat)
          case atStart => exact ⟨0, Nat.zero_le _, rfl⟩
          case round =>
            obtain ⟨j2, hj2, rfl⟩ := hrel
            by_cases hjk : j2 ≤ k
            · have y1 := (HAT.out j2 (by omega)).turn (Turn.ofBelow (S := fun _ => False) HBW.out rfl) hab (fun h => h)
              have hok2 := ok_getD hok (i := j2) (by have := HLL.out; omega)
              generalize l.getD j2 acD = aj at *
              have m0 := y1.c0
              clear y1
              have hld := fun W h => ledger_said (w1.heap.size + 1) w1.heap.size (k + 1) (s.playS ac) aj.at_ hok2.1 W h
              have hno := HJ3.2 aj.at_
              generalize (s.playS ac).said aj.at_ = o at *
              have HLD := Lib.hid hld
              clear hld
              have j0 : (0 : Int) ≤ (j2 : Int) := by omega
              have j1 : (j2 : Int) < (len : Int) := by omega
              by_cases hle : aj.at_ ≤ (s.playS ac).done
              · have ho := hno hle
                subst ho
                clear hno HJ3
                go_wp2_with fail
                refine (HLD.out _ HLW.out).mono ?_; rintro e w' ⟨rfl, rfl⟩
                go_wp2_with fail
                go_round
                case rel => exact ⟨j2 + 1, by omega, by go_num⟩
                case measure => simp [intOf]; omega
              · clear hno HJ3
                go_wp2_with fail
                refine (HLD.out _ HLW.out).mono ?_; rintro e w' ⟨rfl, rfl⟩
                cases o
                all_goals
                  go_wp2_with fail
                  go_round
                  case rel => exact ⟨j2 + 1, by omega, by go_num⟩
                  case measure => simp [intOf]; omega
            · clear HJ3
              go_wp2_with fail
              refine (ledger_done _ _ _ _ _ HLW.out).mono ?_; rintro e w' ⟨rfl, rfl⟩
              go_wp2_with fail
              go_roundw
              case rel => exact ⟨k + 1, s.playS ac, by omega, by go_num, rfl, HJ2.out, HLW.out, HBW.out⟩
              case measure => simp [intOf]; omega
    · go_wp2_with fail
      go_ret
      exact ⟨rfl, hB⟩
end Go.Proofs.YtkdekdogfplbmaaDoor
