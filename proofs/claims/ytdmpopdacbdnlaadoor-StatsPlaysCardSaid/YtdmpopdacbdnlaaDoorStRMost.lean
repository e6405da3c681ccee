/- lookoutref25: Most: contract. -/
import Derived.Test.YtdmpopdacbdnlaaDoorStG
namespace Go.Proofs.YtdmpopdacbdnlaaDoor
open Go.RowKit
set_option linter.unusedVariables false
set_option linter.unusedSimpArgs false
set_option maxHeartbeats 4000000
set_option maxRecDepth 20000
theorem pow_next (k : Nat) (h : k < 63) : 2 * ((2 : Int) ^ k - 1) + 1 = 2 ^ (k + 1) - 1 ∧ (2 : Int) ^ (k + 1) ≤ 9223372036854775808 ∧ (2 : Int) ^ k < 9223372036854775808 := by
  have e : (2 : Int) ^ (k + 1) = 2 * 2 ^ k := by rw [Int.pow_succ]; omega
  have a := pow_in (k + 1) (by omega)
  have b := pow_in k (by omega)
  rw [e] at a
  rw [e]
  omega
theorem rsmost_any (n : Int) (q : Option Addr) (m c : Nat) (l : List Rec) (part : Int) (w : World) (h : RowG 8 w q m (l.map recVs)) (hm : m ≤ 100000) (hn : ∀ r ∈ l, -9223372036854775808 ≤ r.num ∧ r.num ≤ 9223372036854775807) :
    Calls Tryd.prog 48 #[.agg #[.int .i64 n, .slice q m c], .int .i64 part] w fun e w' => e = .returned (.int .i64 (mostP l part)) ∧ Below w.heap.size w w' := by
  have hll : l.length = m := by have := h.length; rw [List.length_map] at this; exact this
  have HO := Lib.hid (fun W (hW : RowG 8 W q m (l.map recVs)) => rof_any n q m c l 31 (by omega) W hW hm)
  have hbel := Lib.hid (fun k (hk : k < 64) => leqN_below l (fun r hr => (hn r hr).2) k hk)
  have hball := belowB_all l (fun r hr => (hn r hr).2)
  have ha0 := kcount_le l 31
  generalize hv : mostP l part = mv
  unfold mostP at hv
  generalize kcount l 31 = all at *
  replace hv := Lib.hid hv
  replace h := Lib.hid h
  replace hn := Lib.hid hn
  replace hball := Lib.hid hball
  go_enter Tryd.func48, Tryd.ntmps48
  go_wp2_with fail
  have A1 : Below w.heap.size w (w.alloc (.cells #[.int .i64 n, .slice q m c] 65)) := (Below.refl _ _).alloc (Nat.le_refl _) _
  have X1 := Lib.hid (Box.new w [.int .i64 n, .slice q m c] _ 65 rfl _ rfl)
  replace h := Lib.hid (h.out.below A1)
  replace X1 := Lib.hid X1.out
  generalize hw1 : w.alloc (.cells #[.int .i64 n, .slice q m c] 65) = w1 at *
  clear hw1
  refine (HO.out w1 h.out).mono ?_; rintro e w2 ⟨rfl, hb2⟩
  have B2 := A1.trans (hb2.mono A1.size)
  replace X1 := Lib.hid (X1.out.below hb2)
  replace h := Lib.hid (h.out.below hb2)
  clear hb2 A1 HO
  have x1 := X1.out.cell 1 _ rfl
  have xl := X1.out.lt
  by_cases h0 : (all : Int) = 0
  · have hv2 := Lib.hid ((if_pos (.inl h0)).symm.trans hv.out)
    go_wp2_with fail
    go_ret
    exact ⟨by rw [← hv2.out]; rfl, B2⟩
  by_cases h1 : part < 0
  · have hv2 := Lib.hid ((if_pos (.inr (.inl h1))).symm.trans hv.out)
    go_wp2_with fail
    go_ret
    exact ⟨by rw [← hv2.out]; rfl, B2⟩
  by_cases h2 : 100 < part
  · have hv2 := Lib.hid ((if_pos (.inr (.inr h2))).symm.trans hv.out)
    go_wp2_with fail
    go_ret
    exact ⟨by rw [← hv2.out]; rfl, B2⟩
  replace hv := (if_neg (by omega)).symm.trans hv.out
  obtain ⟨p, rfl⟩ := Int.eq_ofNat_of_zero_le (show 0 ≤ part by omega)
  have hpl : p * all ≤ 100 * all := Nat.mul_le_mul (by omega) (Nat.le_refl _)
  have hpa : p * all ≤ 100 * 100000 := Nat.mul_le_mul (by omega) (by omega)
  have hc : ((p : Int) * (all : Int)) = ((p * all : Nat) : Int) := by simp
  have hwc : IntKind.i64.wrap ((p : Int) * (all : Int)) = ((p * all : Nat) : Int) := by rw [hc]; exact IntWalk.i64_in _ (by omega)
  rw [hc] at hv
  replace hv := Lib.hid hv
  clear hc
  generalize hcc : p * all = cc at *
  replace hcc := Lib.hid hcc
  have e0 : ((all : Int) == 0) = false := by rw [beq_eq_false_iff_ne]; exact h0
  have e1 : (decide ((p : Int) < 0)) = false := decide_eq_false (by omega)
  have e2 : (decide (100 < (p : Int))) = false := decide_eq_false (by omega)
  go_wp2_with fail
  go_loopw [6, 7] (fun mo i wr => ∃ k : Nat, k < 64 ∧ i = .int .i64 (k : Int) ∧ mo = .int .i64 ((2 : Int) ^ k - 1) ∧ wr = w2 ∧ Hid (mostGo l (cc : Int) 0 64 0 = mostGo l (cc : Int) k (64 - k) (belowB l k))) (fun mo i wr => 64 - (intOf i).toNat)
  case atStart => exact ⟨0, by omega, rfl, rfl, rfl, Lib.hid rfl⟩
  case round =>
    obtain ⟨k, hk, rfl, rfl, rfl, hmg⟩ := hrel
    have hbk := hbel.out k hk
    have hpk := pow_in k hk
    have hpn := Lib.hid (fun h => pow_next k h)
    have hit := Lib.hid (fun h => mostGo_hit l (cc : Int) k hk h)
    have miss := Lib.hid (fun h => mostGo_miss l (cc : Int) k hk h)
    have hk63 : k = 63 → belowB l (k + 1) = (all : Int) := fun e => by subst e; exact hball.out
    replace hk63 := Lib.hid hk63
    rw [← hbk] at hit miss hk63
    generalize hpw : (2 : Int) ^ k - 1 = pw at *
    replace hpw := Lib.hid hpw
    have hpw0 : 0 ≤ pw := by have := hpw.out; omega
    have hpw1 : pw ≤ 9223372036854775807 := by have := hpw.out; omega
    have hk' : (k : Int) < 64 := by omega
    go_wp2_with fail
    go_loopw [8, 9] (fun cnt i wi => ∃ j : Nat, j ≤ m ∧ i = .int .i64 (j : Int) ∧ cnt = .int .i64 (leqN (l.take j) pw : Int) ∧ wi = wr) (fun cnt i wi => m - (intOf i).toNat)
    case atStart => exact ⟨0, Nat.zero_le _, rfl, rfl, rfl⟩
    case round =>
      obtain ⟨j, hj, rfl, rfl, rfl⟩ := hrel
      by_cases hlt : j < m
      · obtain ⟨b, off, rfl, hbl, hcl⟩ := RowG.rec_ h.out (by omega)
        have r0 := (hcl j hlt).c0
        have r4 := (hcl j hlt).c4
        clear hcl
        have hle := leqN_le (l.take j) pw
        have htl : (l.take j).length ≤ j := by rw [List.length_take]; omega
        have hnr := hn.out (l.getD j (Rec.zero 0)) (by simp [List.getD, show j < l.length from by omega])
        have hts : leqN (l.take (j + 1)) pw = leqN (l.take j) pw + (if isLat (l.getD j (Rec.zero 0)) = true ∧ (l.getD j (Rec.zero 0)).num ≤ pw then 1 else 0) := by rw [take_succ25 (by omega), leqN_snoc]
        have hkk := (l.getD j (Rec.zero 0)).kind.toNat_lt
        unfold isLat at hts
        generalize (l.getD j (Rec.zero 0)).kind.toNat = x at *
        generalize (l.getD j (Rec.zero 0)).num = nm at *
        generalize leqN (l.take j) pw = cn at *
        generalize hnx : leqN (l.take (j + 1)) pw = cx at *
        replace hnx := Lib.hid hnx
        have hlt' : (j : Int) < (m : Int) := by omega
        by_cases he : x = 31
        · subst he
          by_cases hz : nm ≤ pw
          · rw [if_pos ⟨by simp, hz⟩] at hts
            subst hts
            go_wp2_with fail
            go_roundw
            case rel => exact ⟨j + 1, by omega, by go_num, by rw [hnx.out]; go_num, trivial⟩
            case measure => simp [intOf]; omega
          · rw [if_neg (fun e => hz e.2)] at hts
            subst hts
            go_wp2_with fail
            go_roundw
            case rel => exact ⟨j + 1, by omega, by go_num, by rw [hnx.out], trivial⟩
            case measure => simp [intOf]; omega
        · rw [if_neg (fun e => he (by simpa using e.1))] at hts
          have he2 : ((x : Int) == 31) = false := by rw [beq_eq_false_iff_ne]; omega
          subst hts
          replace he := Lib.hid he
          go_wp2_with fail
          go_roundw
          case rel => exact ⟨j + 1, by omega, by go_num, by rw [hnx.out], trivial⟩
          case measure => simp [intOf]; omega
      · have : j = m := by omega
        subst this
        have e : l.take j = l := List.take_of_length_le (by omega)
        rw [e]
        have hle := leqN_le l pw
        generalize leqN l pw = cn at *
        have hlt2 : ¬ ((j : Int) < (j : Int)) := by omega
        have hw5 : IntKind.i64.wrap ((cn : Int) * 100) = (cn : Int) * 100 := IntWalk.i64_in _ (by omega)
        by_cases hge : (cc : Int) ≤ (cn : Int) * 100
        · have hres := Lib.hid (hmg.out.trans (hit.out hge))
          clear hit miss hmg
          go_wp2_with fail
          go_ret
          exact ⟨by rw [← hv.out, hres.out]; rfl, B2⟩
        · have hk2 : k < 63 := by
            rcases Nat.lt_or_ge k 63 with hh | hh
            · exact hh
            · exfalso
              have := hk63.out (by omega)
              have h5 := hcc.out
              omega
          have hres : Hid (mostGo l (cc : Int) 0 64 0 = mostGo l (cc : Int) (k + 1) (64 - (k + 1)) (belowB l (k + 1))) := Lib.hid (by rw [← hbk]; exact hmg.out.trans (miss.out (by omega)))
          have hp3 := hpn.out hk2
          have hpo := hpw.out
          have hlt6 : pw < 9223372036854775807 := by omega
          have hw6 : IntKind.i64.wrap (2 * pw) = 2 * pw := IntWalk.i64_in _ (by omega)
          have hw7 : IntKind.i64.wrap (2 * pw + 1) = 2 * pw + 1 := IntWalk.i64_in _ (by omega)
          have hp4 : 2 * pw + 1 = 2 ^ (k + 1) - 1 := hp3.1
          replace hp4 := Lib.hid hp4
          replace hpo := Lib.hid hpo
          replace hp3 := Lib.hid hp3
          clear hit miss hmg
          go_wp2_with fail
          go_roundw
          case rel => exact ⟨k + 1, by omega, by go_num, by rw [← hp4.out], trivial, hres⟩
          case measure => simp [intOf]; omega
end Go.Proofs.YtdmpopdacbdnlaaDoor
