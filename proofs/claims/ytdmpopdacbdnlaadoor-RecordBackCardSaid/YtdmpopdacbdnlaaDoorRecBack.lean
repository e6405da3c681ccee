/- The walk of RecordBack. -/
import Derived.Test.YtdmpopdacbdnlaaDoorRecOpen
import Derived.Test.YtdmpopdacbdnlaaDoorChecked
import Derived.Test.YtdmpopdacbdnlaaDoorRows
namespace Go.Proofs.YtdmpopdacbdnlaaDoor
open Go.RowKit
set_option linter.unusedVariables false
set_option linter.unusedSimpArgs false
set_option maxHeartbeats 4000000
set_option maxRecDepth 20000
theorem filt_take (p : Rec → Bool) (l : List Rec) (j : Nat) (hj : j < l.length) :
    (p (l.getD j (Rec.zero 0)) = true → ((l.take j).filter p).length < (l.filter p).length ∧ (l.filter p).getD ((l.take j).filter p).length (Rec.zero 0) = l.getD j (Rec.zero 0) ∧ ((l.take (j + 1)).filter p).length = ((l.take j).filter p).length + 1) ∧
    (p (l.getD j (Rec.zero 0)) = false → ((l.take (j + 1)).filter p).length = ((l.take j).filter p).length) := by
  have e0 : l.getD j (Rec.zero 0) = l[j] := by simp [List.getD, hj]
  have e1 : l.take (j + 1) = l.take j ++ [l[j]] := List.take_succ_eq_append_getElem hj
  have e2 : l = l.take j ++ l[j] :: l.drop (j + 1) := by rw [← List.drop_eq_getElem_cons hj, List.take_append_drop]
  rw [e0]
  constructor
  · intro h
    have e3 : l.filter p = (l.take j).filter p ++ l[j] :: (l.drop (j + 1)).filter p := by
      conv => lhs; rw [e2]
      rw [List.filter_append, List.filter_cons_of_pos h]
    refine ⟨by rw [e3]; simp, ?_, by rw [e1, List.filter_append, List.filter_cons_of_pos h]; simp⟩
    rw [e3]
    simp [List.getD]
  · intro h
    rw [e1, List.filter_append, List.filter_cons_of_neg (by rw [h]; simp)]
    simp
theorem recC_len {r : Rec} (hok : r.ok) : (recC r).length ≤ 300 := by
  unfold recC
  split
  · rename_i h
    rw [Fr.put_length]
    have := recBody_le (may_facts h hok).1 (may_facts h hok).2.2
    omega
  · simp
theorem recs_len (l : List Rec) (h : ∀ r ∈ l, r.ok) : ((l.map recC).flatten).length ≤ l.length * 300 := by
  induction l with
  | nil => simp
  | cons r l ih =>
    have h1 := recC_len (h r (by simp))
    have h2 := ih (fun s hs => h s (by simp [hs]))
    rw [List.map_cons, List.flatten_cons, List.length_append]
    simp only [List.length_cons]
    omega
theorem recordBack_walk (a : Option Addr) (len cap : Nat) (cs : List (List Value)) (w : World) (z : RowG 8 w a len cs) (y : ∀ c ∈ cs, OkAll [.int .u8, .int .i64, .int .u64, .int .i64, .int .i64, .int .i64, .bool, .str] c) (hK0 : Kept w) :
    Calls Tryd.prog 12 #[.slice a len cap] w fun e w' => e = .returned (.bool true) ∧ Below w.heap.size w w' := by
  obtain ⟨l, hR, hok⟩ := recs_of z y
  have hlen := hR.length
  rw [List.length_map] at hlen
  clear y z
  have hm : len ≤ 9223372036854775807 := by have := hR.small; unfold maxLen at this; omega
  subst hlen
  have hall := Lib.hid (recAll_puts l hok)
  have hfl := Lib.hid (fun k => recs_len (l.take k) (fun r hr => hok r (List.mem_of_mem_take hr)))
  have hft := Lib.hid (filt_take mayB l)
  have hfz : (l.filter mayB).length ≤ l.length := List.length_filter_le _ _
  have HA := Lib.hid (fun W q n c (hk : Kept W) (h : RowB W q n c (l.map recC).flatten) (hl : n ≤ 100000) => recall_any q n c _ W h hl hk.forms hk.tab)
  replace hok := Lib.hid hok
  replace hK0 := Lib.hid hK0
  replace hR := Lib.hid hR
  go_enter Tryd.func12, Tryd.ntmps12
  go_wp2_with fail
  refine (rawake_any _ hK0.out).mono ?_; rintro e w1 ⟨rfl, hb1⟩
  replace hR := Lib.hid (RowG.below hR.out hb1)
  by_cases hl : 30 < l.length
  · go_wp2_with fail
    go_ret
    exact ⟨rfl, hb1⟩
  go_wp2_with fail
  go_loopw [4, 5] (fun v i wr => ∃ k : Nat, k ≤ l.length ∧ i = .int .i64 k ∧ ∃ q1 n1 c1, v = .slice q1 n1 c1 ∧ Hid (n1 = (((l.take k).map recC).flatten).length) ∧ Hid (OwnB 5 w1.heap.size wr (.slice q1 n1 c1) ((l.take k).map recC).flatten) ∧ Below w1.heap.size w1 wr) (fun v i wr => l.length - (intOf i).toNat)
  case atStart => exact ⟨0, Nat.zero_le _, rfl, none, 0, 0, rfl, Lib.hid (by simp), Lib.hid (by simpa using OwnB.nil _ _ _), Below.refl _ _⟩
  case round =>
    obtain ⟨k, hk, rfl, q1, n1, c1, rfl, hn1, hO, hbr⟩ := hrel
    have Bw := hb1.trans (hbr.mono hb1.size)
    by_cases hlt : k < l.length
    · have hi0 : (0 : Int) ≤ (k : Int) := by omega
      have hi1 : (k : Int) < (l.length : Int) := by omega
      obtain ⟨b2, o2, rfl, hl2, hc2⟩ := RowG.rec_ (RowG.below hR.out hbr) (by omega)
      have Y2 := hc2 k hlt
      have hrok : (l.getD k (Rec.zero 0)).ok := hok.out _ (by simp [List.getD, hlt])
      have hts : l.take (k + 1) = l.take k ++ [l.getD k (Rec.zero 0)] := by rw [List.take_succ_eq_append_getElem hlt]; simp [List.getD, hlt]
      have hf1 : ((l.take (k + 1)).map recC).flatten = ((l.take k).map recC).flatten ++ recC (l.getD k (Rec.zero 0)) := by rw [hts]; simp
      have hs1 := hfl.out k
      generalize l.getD k (Rec.zero 0) = r at *
      clear hc2 hts
      have hr3 := recC_len hrok
      have htx := hrok.text
      have hz1 := ba_sizeP r.text
      unfold maxLen at htx
      have HP := Lib.hid (fun W (hk : Kept W) => recput_any r W hrok hk.forms hk.tab)
      unfold recA at HP
      obtain ⟨y0, y1, y2, y3, y4, y5, y6, y7⟩ := Y2
      replace hf1 := Lib.hid hf1
      rw [List.length_take] at hs1
      by_cases ht : 400 < r.text.length
      · go_wp2_with fail
        go_ret
        exact ⟨rfl, Bw⟩
      go_wp2_with fail
      refine (HP.out _ (hK0.out.below Bw)).mono ?_; rintro e w3 ⟨v3, rfl, hO3, hb3⟩
      obtain ⟨q3, c3, rfl, hR3, _⟩ := hO3.row
      generalize hlc : (recC r).length = lc at *
      replace hlc := Lib.hid hlc
      have B3 := hbr.trans (hb3.mono hbr.size)
      have z3 := B3.size
      have hn1b : n1 ≤ 9300 := by have := hn1.out; omega
      clear hs1
      clear hO3
      replace hR3 := Lib.hid hR3
      have tok1 : True := trivial
      go_wp2_with (at_builtin; have _t := tok1; refine append_bytes 22 5 info8 Tryd.underlying22 rfl _ _ rfl w1.heap.size (.slice q1 n1 c1) _ n1 hn1.out.symm rfl (hO.out.below hb3) q3 lc c3 _ rfl hR3.out (by omega) z3 ?_; intro q4 c4 w4 hO4 _ hG4; clear tok1; have B4 : Below w1.heap.size w1 w4 := B3.grown hG4 z3 (fun j hj => (hO.out.owns.lt j hj).1); replace hO4 := Lib.hid hO4; clear hG4)
      go_roundw
      case rel => first | exact ⟨k + 1, by omega, by go_num, q4, n1 + lc, c4, rfl, Lib.hid (by rw [hf1.out, List.length_append, hn1.out, hlc.out]), Lib.hid (by rw [hf1.out]; exact hO4.out), B4⟩ | exact ⟨k + 1, by omega, by omega, q4, n1 + lc, c4, rfl, Lib.hid (by rw [hf1.out, List.length_append, hn1.out, hlc.out]), Lib.hid (by rw [hf1.out]; exact hO4.out), B4⟩
      case measure => simp [intOf] <;> omega
    · obtain rfl : k = l.length := by omega
      have hO2 := hO.out
      replace hn1 := hn1.out
      rw [List.take_length] at hO2 hn1
      have hs1 := hfl.out l.length
      rw [List.take_length] at hs1
      obtain ⟨hq1, hR1⟩ := hO2.rowS
      replace hR1 := Lib.hid hR1
      replace hR := Lib.hid (RowG.below hR.out hbr)
      clear hO2 hO
      have HA2 := HA.out wr q1 n1 c1 (hK0.out.below Bw) hR1.out (by omega)
      rw [hall.out] at HA2
      simp only at HA2
      replace HA2 := Lib.hid HA2
      replace hq1 := Lib.hid hq1
      replace hn1 := Lib.hid hn1
      go_wp2_with fail
      refine HA2.out.mono ?_; rintro e w5 ⟨v5, rfl, hO5, hb5⟩
      have B5 := Bw.trans (hb5.mono Bw.size)
      obtain ⟨q5, c5, rfl, hR5, _, _⟩ := hO5.row
      rw [List.length_map] at hR5 ⊢
      replace hR5 := Lib.hid hR5
      replace hR := Lib.hid (RowG.below hR.out hb5)
      clear hO5 HA2 HA hb5 hbr Bw hR1
      have hz5 : (l.filter mayB).length ≤ 30 := by omega
      obtain ⟨fl, hflq⟩ : ∃ fl, (l.filter mayB).length = fl := ⟨_, rfl⟩
      rw [hflq] at hR5 hz5 ⊢
      clear hfz
      replace hflq := Lib.hid hflq
      go_wp2_with fail
      go_loopw [8, 9] (fun kk i wr => ∃ j : Nat, j ≤ l.length ∧ i = .int .i64 j ∧ (∃ m : Nat, kk = .int .i64 m ∧ Hid (m = ((l.take j).filter mayB).length)) ∧ Below w5.heap.size w5 wr) (fun kk i wr => l.length - (intOf i).toNat)
      case atStart => exact ⟨0, Nat.zero_le _, rfl, ⟨0, rfl, Lib.hid (by simp)⟩, Below.refl _ _⟩
      case round =>
        obtain ⟨j, hj, rfl, ⟨m, rfl, hm2⟩, hbr⟩ := hrel
        have Bw := B5.trans (hbr.mono B5.size)
        by_cases hlt : j < l.length
        · have hi0 : (0 : Int) ≤ (j : Int) := by omega
          have hi1 : (j : Int) < (l.length : Int) := by omega
          obtain ⟨b2, o2, rfl, hl2, hc2⟩ := RowG.rec_ (RowG.below hR.out hbr) (by omega)
          have Y2 := hc2 j hlt
          have hrok : (l.getD j (Rec.zero 0)).ok := hok.out _ (by simp [List.getD, hlt])
          obtain ⟨hyes, hno⟩ := hft.out j hlt
          rw [← hm2.out] at hyes hno
          have HM := Lib.hid (fun W (hk : Kept W) => may_any (l.getD j (Rec.zero 0)) W hk.forms hrok.text)
          have HEQ := Lib.hid (fun W => neqRec W (l.getD j (Rec.zero 0)) (l.getD j (Rec.zero 0)))
          rw [(eqRec_iff _ _).2 rfl] at HEQ
          generalize hrr : l.getD j (Rec.zero 0) = r at *
          unfold recA at HM HEQ
          clear hc2
          obtain ⟨y0, y1, y2, y3, y4, y5, y6, y7⟩ := Y2
          have Y2 : RecAt _ b2 (o2 + j * 8) r := ⟨y0, y1, y2, y3, y4, y5, y6, y7⟩
          replace Y2 := Lib.hid Y2
          replace hyes := Lib.hid hyes
          replace hno := Lib.hid hno
          replace hrok := Lib.hid hrok
          replace hrr := Lib.hid hrr
          generalize hbm : mayB r = bm at *
          replace hbm := Lib.hid hbm
          go_wp2_with fail
          refine (HM.out _ (hK0.out.below Bw)).mono ?_; rintro e w7 ⟨rfl, hb7⟩
          have B7 := hbr.trans (hb7.mono hbr.size)
          have hl27 : b2 < w7.heap.size := Nat.lt_of_lt_of_le hl2 hb7.size
          replace Y2 := Lib.hid (Y2.out.below hb7 hl2)
          clear y0 y1 y2 y3 y4 y5 y6 y7
          cases bm with
          | false =>
            have hn := hno.out rfl
            replace hn := Lib.hid hn
            clear hno hyes
            go_wp2_with fail
            go_roundw
            case rel => first | exact ⟨j + 1, by omega, by go_num, ⟨m, rfl, Lib.hid hn.out.symm⟩, B7⟩ | exact ⟨j + 1, by omega, by omega, ⟨m, rfl, Lib.hid hn.out.symm⟩, B7⟩
            case measure => simp [intOf] <;> omega
          | true =>
            obtain ⟨g1, g2, g3⟩ := hyes.out rfl
            rw [hflq.out] at g1
            have gm : (m : Int) < (fl : Int) := by omega
            have gm0 : (0 : Int) ≤ (m : Int) := by omega
            have gm1 : ¬ ((fl : Int) ≤ (m : Int)) := by omega
            have gm2 : ¬ (fl ≤ m) := by omega
            obtain ⟨b3, o3, rfl, hl3, hc3⟩ := RowG.rec_ (RowG.below hR5.out B7) (by omega)
            have Y3 := hc3 m g1
            rw [g2] at Y3
            replace Y3 := Lib.hid Y3
            replace g3 := Lib.hid g3
            replace g2 := Lib.hid g2
            clear hc3 hno hyes
            have E : ∀ W, Below w7.heap.size w7 W → RecAt W b3 (o3 + m * 8) r ∧ RecAt W b2 (o2 + j * 8) r := fun W h => ⟨Y3.out.below h hl3, Y2.out.below h hl27⟩
            replace E := Lib.hid E
            have D0 : Below w7.heap.size w7 w7.drew := (Below.refl _ _).drew
            go_wp2_with fail
            refine wp_region_noPanic ?_
            refine wp_region_held_drew (S := fun W => RecAt W b3 (o3 + m * 8) r ∧ RecAt W b2 (o2 + j * 8) r) (by kernel_rfl) (E.out _ D0) (fun hHeld => ?_)
            refine wpAnyH_take (i := 0) (oi := ⟨some 53, _, _, _, _, _⟩) (v := ?_) rfl (by kernel_rfl) (by kernel_rfl) (by kernel_rfl) (fun _ _ _ h => h) (Or.inl ⟨by rfl, ?hyt0⟩) (by assumption) ?_; (case hyt0 => ((intro W hSW; (try dsimp only at hSW); obtain ⟨⟨s0, s1, s2, s3, s4, s5, s6, s7⟩, ⟨t0, t1, t2, t3, t4, t5, t6, t7⟩⟩ := hSW; (try simp only [Nat.zero_add] at s0 s1 s2 s3 s4 s5 s6 s7 t0 t1 t2 t3 t4 t5 t6 t7); go_simp); (all_goals with_reducible rfl))); (try simp only [Act.put, List.setIfInBounds_toArray, List.set_cons_zero, List.set_cons_succ])
            refine wpAnyH_take (i := 1) (oi := ⟨some 54, _, _, _, _, _⟩) (v := ?_) rfl (by kernel_rfl) (by kernel_rfl) (by kernel_rfl) (fun _ _ _ h => h) (Or.inl ⟨by rfl, ?hyt1⟩) (by assumption) ?_; (case hyt1 => ((intro W hSW; (try dsimp only at hSW); obtain ⟨⟨s0, s1, s2, s3, s4, s5, s6, s7⟩, ⟨t0, t1, t2, t3, t4, t5, t6, t7⟩⟩ := hSW; (try simp only [Nat.zero_add] at s0 s1 s2 s3 s4 s5 s6 s7 t0 t1 t2 t3 t4 t5 t6 t7); go_simp); (all_goals with_reducible rfl))); (try simp only [Act.put, List.setIfInBounds_toArray, List.set_cons_zero, List.set_cons_succ])
            refine wpAnyH_take (i := 2) (oi := ⟨some 55, _, _, _, _, _⟩) (v := ?_) rfl (by kernel_rfl) (by kernel_rfl) (by kernel_rfl) (fun _ _ _ h => h) (Or.inl ⟨by rfl, ?hyt2⟩) (by assumption) ?_; (case hyt2 => ((intro W hSW; (try dsimp only at hSW); obtain ⟨⟨s0, s1, s2, s3, s4, s5, s6, s7⟩, ⟨t0, t1, t2, t3, t4, t5, t6, t7⟩⟩ := hSW; (try simp only [Nat.zero_add] at s0 s1 s2 s3 s4 s5 s6 s7 t0 t1 t2 t3 t4 t5 t6 t7); go_simp); (all_goals with_reducible rfl))); (try simp only [Act.put, List.setIfInBounds_toArray, List.set_cons_zero, List.set_cons_succ])
            refine wpAnyH_take (i := 3) (oi := ⟨some 56, _, _, _, _, _⟩) (v := ?_) rfl (by kernel_rfl) (by kernel_rfl) (by kernel_rfl) (fun _ _ _ h => h) (Or.inl ⟨by rfl, ?hyt3⟩) (by assumption) ?_; (case hyt3 => ((intro W hSW; (try dsimp only at hSW); obtain ⟨⟨s0, s1, s2, s3, s4, s5, s6, s7⟩, ⟨t0, t1, t2, t3, t4, t5, t6, t7⟩⟩ := hSW; (try simp only [Nat.zero_add] at s0 s1 s2 s3 s4 s5 s6 s7 t0 t1 t2 t3 t4 t5 t6 t7); go_simp); (all_goals with_reducible rfl))); (try simp only [Act.put, List.setIfInBounds_toArray, List.set_cons_zero, List.set_cons_succ])
            refine wpAnyH_take (i := 4) (oi := ⟨some 57, _, _, _, _, _⟩) (v := ?_) rfl (by kernel_rfl) (by kernel_rfl) (by kernel_rfl) (fun _ _ _ h => h) (Or.inl ⟨by rfl, ?hyt4⟩) (by assumption) ?_; (case hyt4 => ((intro W hSW; (try dsimp only at hSW); obtain ⟨⟨s0, s1, s2, s3, s4, s5, s6, s7⟩, ⟨t0, t1, t2, t3, t4, t5, t6, t7⟩⟩ := hSW; (try simp only [Nat.zero_add] at s0 s1 s2 s3 s4 s5 s6 s7 t0 t1 t2 t3 t4 t5 t6 t7); go_simp); (all_goals with_reducible rfl))); (try simp only [Act.put, List.setIfInBounds_toArray, List.set_cons_zero, List.set_cons_succ])
            refine wpAnyH_take (i := 5) (oi := ⟨some 58, _, _, _, _, _⟩) (v := ?_) rfl (by kernel_rfl) (by kernel_rfl) (by kernel_rfl) (fun _ _ _ h => h) (Or.inl ⟨by rfl, ?hyt5⟩) (by assumption) ?_; (case hyt5 => ((intro W hSW; (try dsimp only at hSW); obtain ⟨⟨s0, s1, s2, s3, s4, s5, s6, s7⟩, ⟨t0, t1, t2, t3, t4, t5, t6, t7⟩⟩ := hSW; (try simp only [Nat.zero_add] at s0 s1 s2 s3 s4 s5 s6 s7 t0 t1 t2 t3 t4 t5 t6 t7); go_simp); (all_goals with_reducible rfl))); (try simp only [Act.put, List.setIfInBounds_toArray, List.set_cons_zero, List.set_cons_succ])
            refine wpAnyH_take (i := 6) (oi := ⟨some 59, _, _, _, _, _⟩) (v := ?_) rfl (by kernel_rfl) (by kernel_rfl) (by kernel_rfl) (fun _ _ _ h => h) (Or.inl ⟨by rfl, ?hyt6⟩) (by assumption) ?_; (case hyt6 => ((intro W hSW; (try dsimp only at hSW); obtain ⟨⟨s0, s1, s2, s3, s4, s5, s6, s7⟩, ⟨t0, t1, t2, t3, t4, t5, t6, t7⟩⟩ := hSW; (try simp only [Nat.zero_add] at s0 s1 s2 s3 s4 s5 s6 s7 t0 t1 t2 t3 t4 t5 t6 t7); go_simp); (all_goals with_reducible rfl))); (try simp only [Act.put, List.setIfInBounds_toArray, List.set_cons_zero, List.set_cons_succ])
            refine wpAnyH_take (i := 7) (oi := ⟨some 60, _, _, _, _, _⟩) (v := ?_) rfl (by kernel_rfl) (by kernel_rfl) (by kernel_rfl) (fun _ _ _ h => h) (Or.inl ⟨by rfl, ?hyt7⟩) (by assumption) ?_; (case hyt7 => ((intro W hSW; (try dsimp only at hSW); obtain ⟨⟨s0, s1, s2, s3, s4, s5, s6, s7⟩, ⟨t0, t1, t2, t3, t4, t5, t6, t7⟩⟩ := hSW; (try simp only [Nat.zero_add] at s0 s1 s2 s3 s4 s5 s6 s7 t0 t1 t2 t3 t4 t5 t6 t7); go_simp); (all_goals with_reducible rfl))); (try simp only [Act.put, List.setIfInBounds_toArray, List.set_cons_zero, List.set_cons_succ])
            refine wpAnyH_take (i := 8) (oi := ⟨some 61, _, _, _, _, _⟩) (v := ?_) rfl (by kernel_rfl) (by kernel_rfl) (by kernel_rfl) (fun _ _ _ h => h) (Or.inl ⟨by rfl, ?hyt8⟩) (by assumption) ?_; (case hyt8 => ((intro W hSW; (try dsimp only at hSW); obtain ⟨⟨s0, s1, s2, s3, s4, s5, s6, s7⟩, ⟨t0, t1, t2, t3, t4, t5, t6, t7⟩⟩ := hSW; (try simp only [Nat.zero_add] at s0 s1 s2 s3 s4 s5 s6 s7 t0 t1 t2 t3 t4 t5 t6 t7); go_simp); (all_goals with_reducible rfl))); (try simp only [Act.put, List.setIfInBounds_toArray, List.set_cons_zero, List.set_cons_succ])
            refine wpAnyH_take (i := 9) (oi := ⟨some 62, _, _, _, _, _⟩) (v := ?_) rfl (by kernel_rfl) (by kernel_rfl) (by kernel_rfl) (fun _ _ _ h => h) (Or.inl ⟨by rfl, ?hyt9⟩) (by assumption) ?_; (case hyt9 => ((intro W hSW; (try dsimp only at hSW); obtain ⟨⟨s0, s1, s2, s3, s4, s5, s6, s7⟩, ⟨t0, t1, t2, t3, t4, t5, t6, t7⟩⟩ := hSW; (try simp only [Nat.zero_add] at s0 s1 s2 s3 s4 s5 s6 s7 t0 t1 t2 t3 t4 t5 t6 t7); go_simp); (all_goals with_reducible rfl))); (try simp only [Act.put, List.setIfInBounds_toArray, List.set_cons_zero, List.set_cons_succ])
            refine wpAnyH_take (i := 10) (oi := ⟨some 63, _, _, _, _, _⟩) (v := ?_) rfl (by kernel_rfl) (by kernel_rfl) (by kernel_rfl) (fun _ _ _ h => h) (Or.inl ⟨by rfl, ?hyt10⟩) (by assumption) ?_; (case hyt10 => ((intro W hSW; (try dsimp only at hSW); obtain ⟨⟨s0, s1, s2, s3, s4, s5, s6, s7⟩, ⟨t0, t1, t2, t3, t4, t5, t6, t7⟩⟩ := hSW; (try simp only [Nat.zero_add] at s0 s1 s2 s3 s4 s5 s6 s7 t0 t1 t2 t3 t4 t5 t6 t7); go_simp); (all_goals with_reducible rfl))); (try simp only [Act.put, List.setIfInBounds_toArray, List.set_cons_zero, List.set_cons_succ])
            refine wpAnyH_take (i := 11) (oi := ⟨some 64, _, _, _, _, _⟩) (v := ?_) rfl (by kernel_rfl) (by kernel_rfl) (by kernel_rfl) (fun _ _ _ h => h) (Or.inl ⟨by rfl, ?hyt11⟩) (by assumption) ?_; (case hyt11 => ((intro W hSW; (try dsimp only at hSW); obtain ⟨⟨s0, s1, s2, s3, s4, s5, s6, s7⟩, ⟨t0, t1, t2, t3, t4, t5, t6, t7⟩⟩ := hSW; (try simp only [Nat.zero_add] at s0 s1 s2 s3 s4 s5 s6 s7 t0 t1 t2 t3 t4 t5 t6 t7); go_simp); (all_goals with_reducible rfl))); (try simp only [Act.put, List.setIfInBounds_toArray, List.set_cons_zero, List.set_cons_succ])
            refine wpAnyH_take (i := 12) (oi := ⟨some 65, _, _, _, _, _⟩) (v := ?_) rfl (by kernel_rfl) (by kernel_rfl) (by kernel_rfl) (fun _ _ _ h => h) (Or.inl ⟨by rfl, ?hyt12⟩) (by assumption) ?_; (case hyt12 => ((intro W hSW; (try dsimp only at hSW); obtain ⟨⟨s0, s1, s2, s3, s4, s5, s6, s7⟩, ⟨t0, t1, t2, t3, t4, t5, t6, t7⟩⟩ := hSW; (try simp only [Nat.zero_add] at s0 s1 s2 s3 s4 s5 s6 s7 t0 t1 t2 t3 t4 t5 t6 t7); go_simp); (all_goals with_reducible rfl))); (try simp only [Act.put, List.setIfInBounds_toArray, List.set_cons_zero, List.set_cons_succ])
            have heq := HEQ.out
            refine wpAnyH_take (i := 13) (oi := ⟨some 66, _, _, _, _, _⟩) (v := ?_) rfl (by kernel_rfl) (by kernel_rfl) (by kernel_rfl) (fun _ _ _ h => h) (Or.inl ⟨by rfl, ?hyt13⟩) (by assumption) ?_; (case hyt13 => ((intro W hSW; (try dsimp only at hSW); obtain ⟨⟨s0, s1, s2, s3, s4, s5, s6, s7⟩, ⟨t0, t1, t2, t3, t4, t5, t6, t7⟩⟩ := hSW; (try simp only [Nat.zero_add] at s0 s1 s2 s3 s4 s5 s6 s7 t0 t1 t2 t3 t4 t5 t6 t7); go_simp); (all_goals with_reducible rfl))); (try simp only [Act.put, List.setIfInBounds_toArray, List.set_cons_zero, List.set_cons_succ])
            clear heq
            refine wpAnyH_take (i := 14) (oi := ⟨some 67, _, _, _, _, _⟩) (v := ?_) rfl (by kernel_rfl) (by kernel_rfl) (by kernel_rfl) (fun _ _ _ h => h) (Or.inl ⟨by rfl, ?hyt14⟩) (by assumption) ?_; (case hyt14 => ((intro W hSW; (try dsimp only at hSW); obtain ⟨⟨s0, s1, s2, s3, s4, s5, s6, s7⟩, ⟨t0, t1, t2, t3, t4, t5, t6, t7⟩⟩ := hSW; (try simp only [Nat.zero_add] at s0 s1 s2 s3 s4 s5 s6 s7 t0 t1 t2 t3 t4 t5 t6 t7); go_simp); (all_goals with_reducible rfl))); (try simp only [Act.put, List.setIfInBounds_toArray, List.set_cons_zero, List.set_cons_succ])
            refine wpAnyH_done (by kernel_rfl) ?_ _
            refine NoPanic.normal ?_
            have B8 := B7.drew
            clear hHeld D0 E HEQ
            go_wp2_with fail
            go_roundw
            case rel => first | exact ⟨j + 1, by omega, by go_num, ⟨m + 1, by go_num, Lib.hid g3.out.symm⟩, B8⟩ | exact ⟨j + 1, by omega, by omega, ⟨m + 1, by omega, Lib.hid g3.out.symm⟩, B8⟩
            case measure => simp [intOf] <;> omega
        · obtain rfl : j = l.length := by omega
          have hm3 := hm2.out
          rw [List.take_length] at hm3
          rw [hflq.out] at hm3
          subst hm3
          clear hm2
          go_wp2_with fail
          go_ret
          exact ⟨rfl, Bw⟩
end Go.Proofs.YtdmpopdacbdnlaaDoor
