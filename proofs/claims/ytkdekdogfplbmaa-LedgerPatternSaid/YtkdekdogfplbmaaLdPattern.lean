/- The walk of LedgerPattern. -/
import Derived.Test.YtkdekdogfplbmaaLdPlay
namespace Go.Proofs.Ytkdekdogfplbmaa
open Go.RowKit
set_option linter.unusedVariables false
set_option linter.unusedSimpArgs false
set_option maxRecDepth 20000
set_option maxHeartbeats 4000000

theorem rc_getD {l : List Rc} {i : Nat} (hi : i < l.length) : l.getD i rcD = l[i] := by simp [List.getD, hi]
theorem ledgerPattern_walk (p : Int) (hp : -9223372036854775808 ≤ p ∧ p ≤ 9223372036854775807) (a : Option Addr) (len cap : Nat) (cs : List (List Value)) (t : Int) (ht : -9223372036854775808 ≤ t ∧ t ≤ 9223372036854775807) (w : World) (z : RowG 5 w a len cs) (y : ∀ c ∈ cs, OkAll [.int .i64, .int .i64, .int .i64, .bool, .bool] c) :
    Calls Try.prog 7 #[.int .i64 p, .slice a len cap, .int .i64 t] w fun e w' => e = .returned (.bool true) ∧ Below w.heap.size w w' := by
  obtain ⟨l, hR, hok⟩ := acts_of z y
  clear z y
  have hll := hR.length
  rw [List.length_map] at hll
  have hsm : len ≤ 9223372036854775807 := by have := hR.small; unfold maxLen at this; omega
  have HLL := Lib.hid hll
  clear hll
  go_enter Try.func7, Try.ntmps7
  go_wp2_with fail
  refine (ld_awake _).mono ?_; rintro e w1 ⟨rfl, hb1⟩
  have z1 := hb1.size
  by_cases hl : 120 < len
  · go_wp2_with fail
    go_ret
    exact ⟨rfl, hb1⟩
  go_wp2_with fail
  refine (ledger_new p hp _).mono ?_; rintro e w2 ⟨rfl, hL2, hb2, z2⟩
  have B2 : Below w.heap.size w w2 := hb1.trans (hb2.mono z1)
  go_wp2_with fail
  go_loopw [9, 10, 11] (fun sd ov i wr => ∃ (k : Nat) (s : LS) (x o : Int), k ≤ len ∧ i = .int .i64 k ∧ sd = .int .i64 x ∧ ov = .int .i64 o ∧ PatJ s t (x, o) ∧ Led wr (w1.heap.size + 1) w1.heap.size k s ∧ Below w.heap.size w wr) (fun sd ov i wr => len - (intOf i).toNat)
  case atStart => exact ⟨0, _, 0, 0, Nat.zero_le _, rfl, rfl, rfl, patJ_start p t, hL2, B2⟩
  case round =>
    obtain ⟨k, s, x, o, hk, rfl, rfl, rfl, hJ, hL, hB⟩ := hrel
    have HJ := Lib.hid hJ; clear hJ
    have hz3 : w1.heap.size ≤ wr.heap.size := by have := MapB.lt hL.m; omega
    have HL := Lib.hid hL; clear hL hL2
    by_cases hlt : k < len
    · have hA := RowG.below hR hB
      obtain ⟨ab, ao, rfl, hab, hat⟩ := RowA.at_ hA (by omega)
      have hac := hat k hlt
      have hok1 := ok_getD hok (i := k) (by have := HLL.out; omega)
      clear hA hat
      generalize l.getD k acD = ac at *
      obtain ⟨k0, k1, k2, k3, k4⟩ := hac
      go_wp2_with fail
      refine (play_any _ _ _ _ ac hok1 _ HL.out (by omega)).mono ?_; rintro e w3 hs
      obtain ⟨q, c, rfl, hRC, hx, hL3, hT3, hcap⟩ := hs.done
      have hl3 := playR_len s ac
      obtain ⟨p', hpa, hJ'⟩ := patJ_step s t (x, o) ac HJ.out
      have HPA := Lib.hid hpa; clear hpa hs
      have HL3 := Lib.hid hL3; clear hL3
      generalize s.playR ac = rs at *
      have z3 := hT3.size
      have hq0 : 0 < rs.length → ∃ b, q = some ⟨b, 0, none⟩ ∧ b < w3.heap.size ∧ ∀ i, i < rs.length → RcAt w3 b (i * 8) (rs.getD i rcD) := fun h0 => by
        obtain ⟨b, off, rfl, hb, hc⟩ := hRC.at_ h0
        obtain rfl : off = 0 := (hx _ rfl).2
        exact ⟨b, rfl, hb, fun i hi => by simpa using hc i hi⟩
      have HQ := Lib.hid hq0; clear hq0 hRC hx k0 k1 k2 k3 k4
      go_wp2_with fail
      go_loop [9, 10, 13] (fun sd ov i => ∃ (j : Nat) (x' o' : Int), j ≤ rs.length ∧ i = .int .i64 j ∧ sd = .int .i64 x' ∧ ov = .int .i64 o' ∧ patAll t (rs.take j) (x, o) = some (x', o')) (fun sd ov i => rs.length - (intOf i).toNat)
      case atStart => exact ⟨0, x, o, Nat.zero_le _, rfl, rfl, rfl, rfl⟩
      case round =>
        obtain ⟨j, x', o', hj, rfl, rfl, rfl, hpj⟩ := hrel
        by_cases hjl : j < rs.length
        · obtain ⟨rb, rfl, hrb, hrat⟩ := HQ.out (by omega)
          have hr := hrat j hjl
          obtain ⟨x2, o2, hst, hp2⟩ := patAll_step HPA.out hjl hpj
          have HP2 := Lib.hid hp2
          clear hp2 hpj hrat
          rw [rc_getD hjl] at hr
          generalize rs[j] = r at *
          obtain ⟨kd, ra, num, yes⟩ := r
          obtain ⟨c0, c1, c2, c3, c4, c5, c6, c7⟩ := hr
          simp only at c0 c3 c4 c6
          clear c1 c2 c5 c7
          rcases patStep_cases hst with ⟨g1, rfl, rfl⟩ | ⟨g1, g2, rfl, rfl, rfl, rfl⟩ | ⟨g1, g2, rfl, rfl, rfl, rfl⟩ | ⟨g1, g2, rfl, rfl, rfl, rfl⟩ | ⟨g1, g2, rfl, rfl, rfl, rfl⟩ | ⟨g1, g2, rfl, g3, rfl, rfl⟩
          · clear hst
            simp only at g1
            have e1 : (ra == t) = false := by simpa using g1
            have e2 : (ra != t) = true := by simpa using g1
            clear g1
            go_wp2_with fail
            go_round
            case rel => exact ⟨j + 1, _, _, by omega, by go_num, rfl, rfl, HP2.out⟩
            case measure => simp [intOf]; omega
          all_goals
            clear hst
            simp only at g1 g2
            subst g1 g2
            cases yes
            all_goals
              simp only [now_, Bool.false_eq_true, if_true, if_false] at *
              go_wp2_with fail
              go_round
              case rel => exact ⟨j + 1, _, _, by omega, by go_num, rfl, rfl, HP2.out⟩
              case measure => simp [intOf]; omega
        · have HJ2 : Hid (PatJ (s.playS ac) t (x', o')) := by
            have e : rs.take j = rs := List.take_of_length_le (by omega)
            rw [e, HPA.out] at hpj
            cases hpj
            exact Lib.hid hJ'
          clear hpj hJ'
          go_wp2_with fail
          go_roundw
          case rel => exact ⟨k + 1, _, _, _, by omega, by go_num, rfl, rfl, HJ2.out, HL3.out, hB.trans (hT3.below (Nat.le_trans z1 hz3) (fun k hk e => by omega))⟩
          case measure => simp [intOf]; omega
    · have ho : o = 0 ∨ o = 2 := HJ.out.1
      rcases ho with rfl | rfl
      all_goals
        go_wp2_with fail
        go_ret
        exact ⟨rfl, hB⟩
end Go.Proofs.Ytkdekdogfplbmaa
