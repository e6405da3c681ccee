/- The walk of StatsPlays. -/
import Derived.Test.YtdmpopdacbdnlaaDoorStSaw
import Derived.Test.YtdmpopdacbdnlaaDoorStRShow
import Derived.Test.YtdmpopdacbdnlaaDoorRecOpen
import Derived.Test.YtdmpopdacbdnlaaDoorChecked
import Derived.Test.YtdmpopdacbdnlaaDoorRows
namespace Go.Proofs.YtdmpopdacbdnlaaDoor
open Go.RowKit
set_option linter.unusedVariables false
set_option linter.unusedSimpArgs false
set_option maxHeartbeats 4000000
set_option maxRecDepth 20000
theorem neqCnt (W : World) (a0 a1 a2 a3 a4 a5 : Int) : (binOp .neq 81 (.agg #[.int .i64 a0, .int .i64 a1, .int .i64 a2, .int .i64 a3, .int .i64 a4, .int .i64 a5]) (.agg #[.int .i64 a0, .int .i64 a1, .int .i64 a2, .int .i64 a3, .int .i64 a4, .int .i64 a5])).run Tryd.prog W = .ok (.bool false) W := by
  rw [run_neq_struct]
  simp [go_sem, Op.eqFields]
theorem take_seen3 {l : List Rec} {j : Nat} (h : j < l.length) : seenL (l.take (j + 1)) = if mayB (l.getD j (Rec.zero 0)) = true then seenL (l.take j) ++ [l.getD j (Rec.zero 0)] else seenL (l.take j) := by
  rw [take_succ25 h, seenL_snoc]
theorem statsPlays_walk (q : Option Addr) (n c : Nat) (cs : List (List Value)) (tn : Int) (ht : 0 ≤ tn ∧ tn ≤ 255) (pn : Int) (hpn : -9223372036854775808 ≤ pn ∧ pn ≤ 9223372036854775807) (qn : Int) (hp : -9223372036854775808 ≤ qn ∧ qn ≤ 9223372036854775807) (bn : Int) (hbn : -9223372036854775808 ≤ bn ∧ bn ≤ 9223372036854775807) (w : World) (z : RowG 8 w q n cs) (y : ∀ c ∈ cs, OkAll [.int .u8, .int .i64, .int .u64, .int .i64, .int .i64, .int .i64, .bool, .str] c) (hK0 : KeptS w) :
    Calls Tryd.prog 5 #[.slice q n c, .int .u8 tn, .int .i64 pn, .int .i64 qn, .int .i64 bn] w fun e w' => e = .returned (.bool true) ∧ Below w.heap.size w w' := by
  obtain ⟨l, hR, hok⟩ := recs_of z y
  clear z y
  have hll : l.length = n := by have := hR.length; rw [List.length_map] at this; exact this
  obtain ⟨tm, rfl⟩ := Int.eq_ofNat_of_zero_le ht.1
  have HF := Lib.hid (fun W (h : RowG 8 W q n (l.map recVs)) => few25_any q n c l W h (fun r hr => (hok r hr).text))
  generalize hfv : few25 l = fv at *
  replace hfv := Lib.hid hfv
  replace hR := Lib.hid hR
  replace hok := Lib.hid hok
  replace hK0 := Lib.hid hK0
  go_enter Tryd.func5, Tryd.ntmps5
  go_wp2_with fail
  refine (sawake_any w hK0.out).mono ?_; rintro e w1 ⟨rfl, B1⟩
  go_wp2_with fail
  refine (HF.out _ (hR.out.below B1)).mono ?_; rintro e w1' ⟨rfl, rfl⟩
  cases fv with
  | false =>
    go_wp2_with fail
    go_ret
    exact ⟨rfl, B1⟩
  | true =>
    have h60 : n ≤ 60 := by
      have := hfv.out
      unfold few25 at this
      rw [Bool.and_eq_true, decide_eq_true_iff] at this
      omega
    go_wp2_with fail
    refine (snew_any _).mono ?_; rintro e w2 ⟨rfl, hS2, hb2⟩
    have B2 := B1.trans (hb2.mono B1.size)
    have zg := B1.size
    have zg2 := hS2.lt
    generalize hg : w1'.heap.size = g at *
    clear hb2 B1
    have A3 : Below w2.heap.size w2 (w2.alloc (.cells #[.int .i64 0, .slice none 0 0] 65)) := (Below.refl _ _).alloc (Nat.le_refl _) _
    have X3 := Lib.hid (Box.new w2 [.int .i64 0, .slice none 0 0] _ 65 rfl _ rfl)
    have hS3 := Lib.hid (StAt.below hS2 A3)
    have B3 := B2.trans (A3.mono B2.size)
    replace X3 := Lib.hid X3.out
    have zT : g < w2.heap.size := zg2
    go_wp2_with fail
    generalize hT : w2.heap.size = T at *
    generalize w2.alloc (.cells #[.int .i64 0, .slice none 0 0] 65) = w3 at *
    clear A3 hS2
    have tb : ∀ W W' : World, Below w.heap.size w W → Turn (fun k => k = g) W W' → Below w.heap.size w W' := fun W W' hb t => hb.trans (t.below hb.size (fun k hk => by omega))
    replace tb := Lib.hid tb
    have hgT : g ≠ T := by omega
    go_loopw [16] (fun i wr => ∃ j : Nat, j ≤ n ∧ i = .int .i64 (j : Int) ∧ Hid (StAt wr g 0 (seenL (l.take j))) ∧ (∃ q1 m1 c1, Hid (Box wr T [.int .i64 0, .slice q1 m1 c1]) ∧ Hid (TR wr (T + 1) q1 m1 c1 (seenL (l.take j)))) ∧ Below w.heap.size w wr) (fun i wr => n - (intOf i).toNat)
    case atStart => exact ⟨0, Nat.zero_le _, rfl, hS3, ⟨none, 0, 0, X3, Lib.hid (TR.none _ _)⟩, B3⟩
    case round =>
      obtain ⟨j, hj, rfl, hS, ⟨q1, m1, c1, hX, hTR⟩, hB⟩ := hrel
      have zr := hB.size
      by_cases hlt : j < n
      · obtain ⟨b, off, rfl, hbl, hc⟩ := RowG.rec_ hR.out (by omega)
        have E : ∀ W, Below w.heap.size w W → RecAt W b (off + j * 8) (l.getD j (Rec.zero 0)) := fun W hb => (hc j hlt).below hb hbl
        replace E := Lib.hid E
        have hk1 := hok.out (l.getD j (Rec.zero 0)) (by simp [List.getD, show j < l.length from by omega])
        have s1 := take_seen3 (l := l) (j := j) (by omega)
        have hm1 : (seenL (l.take j)).length ≤ 100 := by
          have := seenL_le (l.take j)
          have : (l.take j).length ≤ j := by rw [List.length_take]; omega
          omega
        clear hc
        have hm2 : m1 ≤ 1000 := by have := hTR.out.len; omega
        generalize l.getD j (Rec.zero 0) = r1 at *
        generalize hq1 : seenL (l.take (j + 1)) = n1 at *
        generalize seenL (l.take j) = o1 at *
        have HS1 := Lib.hid (fun W (h : StAt W g 0 o1) (hK : KeptS W) => see_any g 0 o1 r1 W h hk1 hK.forms (by omega))
        have HR1 := Lib.hid (fun W (h : TR W (T + 1) q1 m1 c1 o1) (hlo : T + 1 ≤ W.heap.size) => rseeT_any 0 q1 m1 c1 (T + 1) o1 r1 W h hlo hm2 hk1)
        have HPl := Lib.hid (fun W => splain_any r1 W)
        have HSN := Lib.hid (fun W => see_none r1 W)
        rw [← s1] at HS1 HR1
        replace hq1 := Lib.hid hq1
        replace s1 := Lib.hid s1
        have hlt' : (j : Int) < (n : Int) := by omega
        unfold recA at HS1 HR1 HPl HSN
        obtain ⟨a0, a1, a2, a3, a4, a5, a6, a7⟩ := E.out _ hB
        go_wp2_with fail
        refine (HS1.out _ hS.out (hK0.out.below hB)).mono ?_; rintro e w4 ⟨rfl, hS4, t4⟩
        have B4 := tb.out _ _ hB t4
        have hX4 := Lib.hid (hX.out.turn t4 (fun e => hgT e.symm))
        have hT4 := Lib.hid (hTR.out.turn t4 (fun k hk e => by omega))
        replace hS4 := Lib.hid hS4
        have zT4 : T + 1 ≤ w4.heap.size := hX4.out.lt
        clear t4 a0 a1 a2 a3 a4 a5 a6 a7 hS hTR hX
        obtain ⟨a0, a1, a2, a3, a4, a5, a6, a7⟩ := E.out _ B4
        go_wp2_with fail
        refine (HSN.out _).mono ?_; rintro e w4' ⟨rfl, hb4⟩
        replace B4 := B4.trans (hb4.mono B4.size)
        replace hX4 := Lib.hid (hX4.out.below hb4)
        replace hT4 := Lib.hid (hT4.out.below hb4)
        replace hS4 := Lib.hid (hS4.out.below hb4)
        replace zT4 := Nat.le_trans zT4 hb4.size
        clear a0 a1 a2 a3 a4 a5 a6 a7 hb4
        generalize w4' = w4 at *
        go_wp2_with fail
        have E1 : ∀ W, Below w4.heap.size w4 W → RecAt W b (off + j * 8) r1 := fun W hb => E.out _ (B4.trans (hb.mono B4.size))
        replace E1 := Lib.hid E1
        have D0 : Below w4.heap.size w4 w4.drew := (Below.refl _ _).drew
        refine wp_region_noPanic ?_
        refine wp_region_held_drew (S := fun W => RecAt W b (off + j * 8) r1) (by kernel_rfl) (E1.out _ D0) (fun hHeld => ?_)
        refine wpAnyH_take (i := 1) (oi := ⟨some 56, _, _, _, _, _⟩) (v := ?_) rfl (by kernel_rfl) (by kernel_rfl) (by kernel_rfl) (fun _ _ _ h => h) (Or.inl ⟨by rfl, ?hyt1⟩) (by assumption) ?_; (case hyt1 => ((intro W hSW; (try dsimp only at hSW); obtain ⟨s0, s1, s2, s3, s4, s5, s6, s7⟩ := hSW; (try simp only [Nat.zero_add] at s0 s1 s2 s3 s4 s5 s6 s7); go_simp); (all_goals with_reducible rfl))); (try simp only [Act.put, List.setIfInBounds_toArray, List.set_cons_zero, List.set_cons_succ])
        refine wpAnyH_take (i := 2) (oi := ⟨some 57, _, _, _, _, _⟩) (v := ?_) rfl (by kernel_rfl) (by kernel_rfl) (by kernel_rfl) (fun _ _ _ h => h) (Or.inl ⟨by rfl, ?hyt2⟩) (by assumption) ?_; (case hyt2 => ((intro W hSW; (try dsimp only at hSW); obtain ⟨s0, s1, s2, s3, s4, s5, s6, s7⟩ := hSW; (try simp only [Nat.zero_add] at s0 s1 s2 s3 s4 s5 s6 s7); go_simp); (all_goals with_reducible rfl))); (try simp only [Act.put, List.setIfInBounds_toArray, List.set_cons_zero, List.set_cons_succ])
        refine wpAnyH_take (i := 3) (oi := ⟨some 58, _, _, _, _, _⟩) (v := ?_) rfl (by kernel_rfl) (by kernel_rfl) (by kernel_rfl) (fun _ _ _ h => h) (Or.inl ⟨by rfl, ?hyt3⟩) (by assumption) ?_; (case hyt3 => ((intro W hSW; (try dsimp only at hSW); obtain ⟨s0, s1, s2, s3, s4, s5, s6, s7⟩ := hSW; (try simp only [Nat.zero_add] at s0 s1 s2 s3 s4 s5 s6 s7); go_simp); (all_goals with_reducible rfl))); (try simp only [Act.put, List.setIfInBounds_toArray, List.set_cons_zero, List.set_cons_succ])
        refine wpAnyH_take (i := 4) (oi := ⟨some 59, _, _, _, _, _⟩) (v := ?_) rfl (by kernel_rfl) (by kernel_rfl) (by kernel_rfl) (fun _ _ _ h => h) (Or.inl ⟨by rfl, ?hyt4⟩) (by assumption) ?_; (case hyt4 => ((intro W hSW; (try dsimp only at hSW); obtain ⟨s0, s1, s2, s3, s4, s5, s6, s7⟩ := hSW; (try simp only [Nat.zero_add] at s0 s1 s2 s3 s4 s5 s6 s7); go_simp); (all_goals with_reducible rfl))); (try simp only [Act.put, List.setIfInBounds_toArray, List.set_cons_zero, List.set_cons_succ])
        refine wpAnyH_ready (rs := [0, 5]) (by kernel_rfl) (by simp) ?_
        refine AllReadyH.cons (o := ⟨some 55, _, _, _, _, _⟩) rfl (fun K hK => ?oA) (AllReadyH.cons (o := ⟨some 60, _, _, _, _, _⟩) rfl (fun K hK => ?oB) AllReadyH.nil)
        case' oA =>
          have x0 := hX4.out.cell 0 _ rfl
          have x1 := hX4.out.cell 1 _ rfl
          go_simp
          (try go_simp); refine hK.out _ _ (E1.out _ D0) (fun hHx => ?_); clear hK K hHeld; have hHeld := hHx; clear hHx; (try simp only [Act.put, List.setIfInBounds_toArray, List.set_cons_zero, List.set_cons_succ])
          refine wpAnyH_ready (rs := [5]) (by kernel_rfl) (by simp) ?_; refine AllReadyH.cons (o := ⟨some 60, _, _, _, _, _⟩) rfl (fun K hK => ?_) AllReadyH.nil; go_simp
          go_at_call 38
          refine (HPl.out _).mono ?_; rintro e w5 ⟨rfl, hb5⟩
          have D5 := D0.trans (hb5.mono D0.size)
          (try go_simp); refine hK.out _ _ (E1.out _ D5) (fun hHx => ?_); clear hK K hHeld; have hHeld := hHx; clear hHx; (try simp only [Act.put, List.setIfInBounds_toArray, List.set_cons_zero, List.set_cons_succ])
          clear x0 x1 hb5
        case' oB =>
          go_simp
          go_at_call 38
          refine (HPl.out _).mono ?_; rintro e w5 ⟨rfl, hb5⟩
          have D5 := D0.trans (hb5.mono D0.size)
          (try go_simp); refine hK.out _ _ (E1.out _ D5) (fun hHx => ?_); clear hK K hHeld; have hHeld := hHx; clear hHx; (try simp only [Act.put, List.setIfInBounds_toArray, List.set_cons_zero, List.set_cons_succ])
          have x0 := (hX4.out.below D5).cell 0 _ rfl
          have x1 := (hX4.out.below D5).cell 1 _ rfl
          refine wpAnyH_ready (rs := [0]) (by kernel_rfl) (by simp) ?_; refine AllReadyH.cons (o := ⟨some 55, _, _, _, _, _⟩) rfl (fun K hK => ?_) AllReadyH.nil; go_simp
          (try go_simp); refine hK.out _ _ (E1.out _ D5) (fun hHx => ?_); clear hK K hHeld; have hHeld := hHx; clear hHx; (try simp only [Act.put, List.setIfInBounds_toArray, List.set_cons_zero, List.set_cons_succ])
          clear x0 x1 hb5
        all_goals (
          refine wpAnyH_ready (rs := [6]) (by kernel_rfl) (by simp) ?_; refine AllReadyH.cons (o := ⟨some 61, _, _, _, _, _⟩) rfl (fun K hK => ?_) AllReadyH.nil; go_simp
          go_at_call 37
          refine (HR1.out _ (hT4.out.below D5) (Nat.le_trans zT4 D5.size)).mono ?_; rintro e w6 ⟨q2, m2, c2, rfl, hT6, hb6⟩
          have D6 := D5.trans (hb6.mono D5.size)
          have hX6 := hX4.out.below D6
          (try go_simp); refine hK.out _ _ (E1.out _ D6) (fun hHx => ?_); clear hK K hHeld; have hHeld := hHx; clear hHx; (try simp only [Act.put, List.setIfInBounds_toArray, List.set_cons_zero, List.set_cons_succ])
          have f0 := hX6.free 0 (by simp)
          have f1 := hX6.free 1 (by simp)
          have x0 := hX6.cell 0 _ rfl
          have x1 := hX6.cell 1 _ rfl
          have xl := hX6.lt
          refine wpAnyH_ready (rs := [7]) (by kernel_rfl) (by simp) ?_; refine AllReadyH.cons (o := ⟨none, _, _, _, _, _⟩) rfl (fun K hK => ?_) AllReadyH.nil; go_simp
          have zb : b < T := by omega
          have tF : Turn (fun k => k = T) w6 ((w6.setCell ⟨T, 0, none⟩ (.int .i64 0)).setCell ⟨T, 1, none⟩ (.slice q2 m2 c2)) := ((Turn.refl (fun k => k = T) w6).setCell ⟨T, 0, none⟩ (fun _ => rfl) _).setCell ⟨T, 1, none⟩ (fun _ => rfl) _
          have R6 := (E1.out _ D6).turn tF (by have := hX6.lt; omega) (fun e => by omega)
          (try go_simp); refine hK.out _ _ R6 (fun hHx => ?_); clear hK K hHeld; have hHeld := hHx; clear hHx; (try simp only [Act.put, List.setIfInBounds_toArray, List.set_cons_zero, List.set_cons_succ])
          have hXF := Lib.hid ((hX6.set 0 (.int .i64 0) (by simp)).set 1 (.slice q2 m2 c2) (by simp))
          have hTF := Lib.hid (hT6.turn tF (fun k hk e => by omega))
          have hSF := Lib.hid ((hS4.out.below D6).turn tF hgT)
          have B6 := B4.trans (D6.mono B4.size)
          have BF : Below w.heap.size w ((w6.setCell ⟨T, 0, none⟩ (.int .i64 0)).setCell ⟨T, 1, none⟩ (.slice q2 m2 c2)) := (B6.setCell (by simp; omega) _).setCell (by simp; omega) _
          clear f0 f1 x0 x1 tF R6 hT6 hX6 hHeld
          refine wpAnyH_done (by kernel_rfl) ?_ _
          refine NoPanic.normal ?_
          generalize (w6.setCell ⟨T, 0, none⟩ (.int .i64 0)).setCell ⟨T, 1, none⟩ (.slice q2 m2 c2) = wF at *
          go_wp2_with fail
          go_roundw
          case rel => exact ⟨j + 1, by omega, by go_num, by rw [hq1.out]; exact hSF, ⟨q2, m2, c2, hXF, by rw [hq1.out]; exact hTF⟩, BF⟩
          case measure => simp [intOf]; omega)
      · have : j = n := by omega
        subst this
        rw [List.take_of_length_le (by omega)] at hS hTR
        have hLl := seenL_le l
        have hLn : ∀ r ∈ seenL l, -9223372036854775808 ≤ r.num ∧ r.num ≤ 9223372036854775807 := fun r hr => (hok.out r (List.mem_filter.1 hr).1).num
        have hm1 : m1 ≤ 100000 := by have := hTR.out.len; omega
        generalize seenL l = L at *
        have hLL : L.length ≤ 100000 := by omega
        replace hLn := Lib.hid hLn
        have hlt2 : ¬ ((j : Int) < (j : Int)) := by omega
        go_wp2_with fail
        go_loopw [17] (fun i wi => ∃ k : Nat, k ≤ tm ∧ i = .int .i64 (k : Int) ∧ Hid (StAt wi g (k : Int) L) ∧ Hid (Box wi T [.int .i64 (k : Int), .slice q1 m1 c1]) ∧ Hid (TR wi (T + 1) q1 m1 c1 L) ∧ Below w.heap.size w wi) (fun i wi => tm - (intOf i).toNat)
        case atStart => exact ⟨0, Nat.zero_le _, rfl, hS, hX, hTR, hB⟩
        case round =>
          clear hS hX hTR hB zr
          obtain ⟨k, hk, rfl, hS, hX, hTR, hB⟩ := hrel
          have zr := hB.size
          by_cases hlt : k < tm
          · have HD := Lib.hid (decoded_any g (k : Int) L wr hS.out (by omega))
            have hlt' : (k : Int) < (tm : Int) := by omega
            go_wp2_with fail
            refine HD.out.mono ?_; rintro e w5 ⟨rfl, hw5⟩
            have t5 : Turn (fun k => k = g) wr w5 := by rw [hw5]; exact Turn.set wr ⟨g, 0, none⟩ _
            have hS5 : StAt w5 g ((k : Int) + 1) L := by rw [hw5]; exact StRaw.setDec hS.out ((k : Int) + 1)
            have B5 := tb.out _ _ hB t5
            have hX5 := hX.out.turn t5 (fun e => hgT e.symm)
            have hT5 := hTR.out.turn t5 (fun k hk e => by omega)
            clear hw5 t5 HD hS hX hTR
            have x0 := hX5.cell 0 _ rfl
            have f0 := hX5.free 0 (by simp)
            have xl := hX5.lt
            have tF : Turn (fun k => k = T) w5 (w5.setCell ⟨T, 0, none⟩ (.int .i64 ((k : Int) + 1))) := Turn.set w5 ⟨T, 0, none⟩ _
            have hXF := Lib.hid (hX5.set 0 (.int .i64 ((k : Int) + 1)) (by simp))
            have hTF := Lib.hid (hT5.turn tF (fun k hk e => by omega))
            have hSF := Lib.hid (hS5.turn tF hgT)
            have BF : Below w.heap.size w (w5.setCell ⟨T, 0, none⟩ (.int .i64 ((k : Int) + 1))) := B5.setCell (by simp; omega) _
            replace hS5 := Lib.hid hS5
            replace hX5 := Lib.hid hX5
            replace hT5 := Lib.hid hT5
            have HDN := Lib.hid (decoded_none w5)
            clear tF
            go_wp2_with fail
            refine HDN.out.mono ?_; rintro e w6 ⟨rfl, rfl⟩
            go_wp2_with fail
            go_roundw
            case rel => exact ⟨k + 1, by omega, by go_num, by simpa using hSF, by simpa using hXF, hTF, BF⟩
            case measure => simp [intOf]; omega
          · have : k = tm := by omega
            subst this
            have hlt3 : ¬ ((k : Int) < (k : Int)) := by omega
            have Bk := hB
            generalize hw0 : wr = w0 at *
            clear hw0
            have zw := zr
            clear zr hB
            have HO := Lib.hid (fun W j hj (h : StAt W g (k : Int) L) => of_any g (k : Int) L j hj W h)
            have HRO := Lib.hid (fun W j hj (h : RowG 8 W q1 m1 (L.map recVs)) => rof_any (k : Int) q1 m1 c1 L j hj W h hm1)
            have HB := Lib.hid (fun W z (h : StAt W g (k : Int) L) => bucket_any g (k : Int) L z W h)
            have HRB : Hid (∀ W z, RowG 8 W q1 m1 (L.map recVs) → Calls Tryd.prog 43 #[.agg #[.int .i64 (k : Int), .slice q1 m1 c1], .int .i64 z] W fun e w' => e = .returned (.int .i64 (bkI L z)) ∧ Below W.heap.size W w') := Lib.hid (fun W z h => by rw [← bcI_bkI L (fun r hr => (hLn.out r hr).2) z]; exact rbucket_any (k : Int) q1 m1 c1 L z W h hm1 hLn.out)
            have HSu := Lib.hid (fun W (h : StAt W g (k : Int) L) => ssum_any g (k : Int) L W h)
            have HRS := Lib.hid (fun W (h : RowG 8 W q1 m1 (L.map recVs)) => rsum_any (k : Int) q1 m1 c1 L W h hm1 hLn.out)
            have HC := Lib.hid (fun W (h : StAt W g (k : Int) L) => counts_any g (k : Int) L qn W h)
            have HM := Lib.hid (fun W (h : StAt W g (k : Int) L) => most_any g (k : Int) L pn W h hLL)
            have HRM := Lib.hid (fun W (h : RowG 8 W q1 m1 (L.map recVs)) => rsmost_any (k : Int) q1 m1 c1 L pn W h hm1 hLn.out)
            have E : ∀ W, Below w0.heap.size w0 W → W.cell? ⟨T, 0, none⟩ = some (.int .i64 (k : Int)) ∧ W.cell? ⟨T, 1, none⟩ = some (.slice q1 m1 c1) := fun W hb => ⟨(hX.out.below hb).cell 0 _ rfl, (hX.out.below hb).cell 1 _ rfl⟩
            have ES : ∀ W, Below w0.heap.size w0 W → StAt W g (k : Int) L := fun W hb => hS.out.below hb
            have ER : ∀ W, Below w0.heap.size w0 W → RowG 8 W q1 m1 (L.map recVs) := fun W hb => (hTR.out.below hb).row
            have hxl := hX.out.lt
            replace E := Lib.hid E
            replace ES := Lib.hid ES
            replace ER := Lib.hid ER
            clear hS hTR hX
            go_wp2_with fail
            go_loopw [18] (fun i wi => ∃ j : Nat, j ≤ 256 ∧ i = .int .i64 (j : Int) ∧ Below w0.heap.size w0 wi) (fun i wi => 256 - (intOf i).toNat)
            case atStart => exact ⟨0, Nat.zero_le _, rfl, Below.refl _ _⟩
            case round =>
              obtain ⟨j, hj, rfl, hbr⟩ := hrel
              by_cases hlt : j < 256
              · have hlt' : (j : Int) < 256 := by omega
                have hw0 : IntKind.u8.wrap (j : Int) = (j : Int) := by rw [IntKind.wrap_u8]; omega
                have H1 := Lib.hid (fun W h => HO.out W j hlt h)
                have H2 := Lib.hid (fun W h => HRO.out W j hlt h)
                generalize kcount L j = kc at *
                go_wp2_with fail
                have D0 := hbr.drew
                refine wp_region_held_drew (S := fun W => W.cell? ⟨T, 0, none⟩ = some (.int .i64 (k : Int)) ∧ W.cell? ⟨T, 1, none⟩ = some (.slice q1 m1 c1)) (by kernel_rfl) (E.out _ D0) (fun hHeld => ?_)
                refine wpAnyH_take (i := 0) (oi := ⟨some 80, _, _, _, _, _⟩) (v := ?_) rfl (by kernel_rfl) (by kernel_rfl) (by kernel_rfl) (fun _ _ _ h => h) (Or.inl ⟨by rfl, ?hyt0⟩) (by assumption) ?_; (case hyt0 => ((intro W hSW; (try dsimp only at hSW); obtain ⟨hSW, hSW2⟩ := hSW; go_simp); (all_goals with_reducible rfl))); (try simp only [Act.put, List.setIfInBounds_toArray, List.set_cons_zero, List.set_cons_succ])
                refine wpAnyH_take (i := 1) (oi := ⟨some 81, _, _, _, _, _⟩) (v := ?_) rfl (by kernel_rfl) (by kernel_rfl) (by kernel_rfl) (fun _ _ _ h => h) (Or.inl ⟨by rfl, ?hyt1⟩) (by assumption) ?_; (case hyt1 => ((intro W hSW; (try dsimp only at hSW); obtain ⟨hSW, hSW2⟩ := hSW; go_simp); (all_goals with_reducible rfl))); (try simp only [Act.put, List.setIfInBounds_toArray, List.set_cons_zero, List.set_cons_succ])
                refine wpAnyH_take (i := 2) (oi := ⟨some 82, _, _, _, _, _⟩) (v := ?_) rfl (by kernel_rfl) (by kernel_rfl) (by kernel_rfl) (fun _ _ _ h => h) (Or.inl ⟨by rfl, ?hyt2⟩) (by assumption) ?_; (case hyt2 => ((intro W hSW; (try dsimp only at hSW); obtain ⟨hSW, hSW2⟩ := hSW; go_simp); (all_goals with_reducible rfl))); (try simp only [Act.put, List.setIfInBounds_toArray, List.set_cons_zero, List.set_cons_succ])
                refine wpAnyH_take (i := 4) (oi := ⟨some 84, _, _, _, _, _⟩) (v := ?_) rfl (by kernel_rfl) (by kernel_rfl) (by kernel_rfl) (fun _ _ _ h => h) (Or.inl ⟨by rfl, ?hyt4⟩) (by assumption) ?_; (case hyt4 => ((intro W hSW; (try dsimp only at hSW); obtain ⟨hSW, hSW2⟩ := hSW; go_simp); (all_goals with_reducible rfl))); (try simp only [Act.put, List.setIfInBounds_toArray, List.set_cons_zero, List.set_cons_succ])
                refine wpAnyH_take (i := 5) (oi := ⟨some 85, _, _, _, _, _⟩) (v := ?_) rfl (by kernel_rfl) (by kernel_rfl) (by kernel_rfl) (fun _ _ _ h => h) (Or.inl ⟨by rfl, ?hyt5⟩) (by assumption) ?_; (case hyt5 => ((intro W hSW; (try dsimp only at hSW); obtain ⟨hSW, hSW2⟩ := hSW; go_simp); (all_goals with_reducible rfl))); (try simp only [Act.put, List.setIfInBounds_toArray, List.set_cons_zero, List.set_cons_succ])
                refine wpAnyH_take (i := 6) (oi := ⟨some 86, _, _, _, _, _⟩) (v := ?_) rfl (by kernel_rfl) (by kernel_rfl) (by kernel_rfl) (fun _ _ _ h => h) (Or.inl ⟨by rfl, ?hyt6⟩) (by assumption) ?_; (case hyt6 => ((intro W hSW; (try dsimp only at hSW); obtain ⟨hSW, hSW2⟩ := hSW; go_simp); (all_goals with_reducible rfl))); (try simp only [Act.put, List.setIfInBounds_toArray, List.set_cons_zero, List.set_cons_succ])
                refine wpAnyH_ready (rs := [3]) (by kernel_rfl) (by simp) ?_; refine AllReadyH.cons (o := ⟨some 83, _, _, _, _, _⟩) rfl (fun K hK => ?_) AllReadyH.nil; go_simp
                go_at_call 40
                refine (H1.out _ (ES.out _ D0)).mono ?_; rintro e w5 ⟨rfl, rfl⟩
                (try go_simp); refine hK.out _ _ (E.out _ D0) (fun hHx => ?_); clear hK K hHeld; have hHeld := hHx; clear hHx; (try simp only [Act.put, List.setIfInBounds_toArray, List.set_cons_zero, List.set_cons_succ])
                refine wpAnyH_ready (rs := [7]) (by kernel_rfl) (by simp) ?_; refine AllReadyH.cons (o := ⟨some 87, _, _, _, _, _⟩) rfl (fun K hK => ?_) AllReadyH.nil; go_simp
                go_at_call 41
                refine (H2.out _ (ER.out _ D0)).mono ?_; rintro e w6 ⟨rfl, hb6⟩
                have D6 := D0.trans (hb6.mono D0.size)
                (try go_simp); refine hK.out _ _ (E.out _ D6) (fun hHx => ?_); clear hK K hHeld; have hHeld := hHx; clear hHx; (try simp only [Act.put, List.setIfInBounds_toArray, List.set_cons_zero, List.set_cons_succ])
                refine wpAnyH_take (i := 8) (oi := ⟨some 88, _, _, _, _, _⟩) (v := ?_) rfl (by kernel_rfl) (by kernel_rfl) (by kernel_rfl) (fun _ _ _ h => h) (Or.inl ⟨by rfl, ?hyt8⟩) (by assumption) ?_; (case hyt8 => ((intro W hSW; (try dsimp only at hSW); obtain ⟨hSW, hSW2⟩ := hSW; go_simp); (all_goals with_reducible rfl))); (try simp only [Act.put, List.setIfInBounds_toArray, List.set_cons_zero, List.set_cons_succ])
                refine wpAnyH_done (by kernel_rfl) ?_ _
                clear hHeld
                go_wp2_with fail
                go_roundw
                case rel => exact ⟨j + 1, by omega, by go_num, D6⟩
                case measure => simp [intOf]; omega
              · have : j = 256 := by omega
                subst this
                have hlt4 : ¬ ((256 : Int) < 256) := by omega
                go_wp2_with fail
                go_loopw [19] (fun i wi => ∃ j : Nat, j ≤ 67 ∧ i = .int .i64 ((j : Int) - 1) ∧ Below w0.heap.size w0 wi) (fun i wi => 67 - (intOf i + 1).toNat)
                case atStart => exact ⟨0, Nat.zero_le _, rfl, hbr⟩
                case round =>
                  clear hbr
                  obtain ⟨j, hj2, rfl, hbr⟩ := hrel
                  by_cases hlt : j < 67
                  · have hlt' : (j : Int) - 1 < 66 := by omega
                    have hw1 : IntKind.i64.wrap ((j : Int) - 1 + 1) = ((j + 1 : Nat) : Int) - 1 := by rw [IntWalk.i64_in _ (by omega)]; omega
                    have H1 := Lib.hid (fun W h => HB.out W ((j : Int) - 1) h)
                    have H2 := Lib.hid (fun W h => HRB.out W ((j : Int) - 1) h)
                    generalize bkI L ((j : Int) - 1) = kc at *
                    go_wp2_with fail
                    have D0 := hbr.drew
                    refine wp_region_held_drew (S := fun W => W.cell? ⟨T, 0, none⟩ = some (.int .i64 (k : Int)) ∧ W.cell? ⟨T, 1, none⟩ = some (.slice q1 m1 c1)) (by kernel_rfl) (E.out _ D0) (fun hHeld => ?_)
                    refine wpAnyH_take (i := 0) (oi := ⟨some 93, _, _, _, _, _⟩) (v := ?_) rfl (by kernel_rfl) (by kernel_rfl) (by kernel_rfl) (fun _ _ _ h => h) (Or.inl ⟨by rfl, ?hyt0⟩) (by assumption) ?_; (case hyt0 => ((intro W hSW; (try dsimp only at hSW); obtain ⟨hSW, hSW2⟩ := hSW; go_simp); (all_goals with_reducible rfl))); (try simp only [Act.put, List.setIfInBounds_toArray, List.set_cons_zero, List.set_cons_succ])
                    refine wpAnyH_take (i := 1) (oi := ⟨some 94, _, _, _, _, _⟩) (v := ?_) rfl (by kernel_rfl) (by kernel_rfl) (by kernel_rfl) (fun _ _ _ h => h) (Or.inl ⟨by rfl, ?hyt1⟩) (by assumption) ?_; (case hyt1 => ((intro W hSW; (try dsimp only at hSW); obtain ⟨hSW, hSW2⟩ := hSW; go_simp); (all_goals with_reducible rfl))); (try simp only [Act.put, List.setIfInBounds_toArray, List.set_cons_zero, List.set_cons_succ])
                    refine wpAnyH_take (i := 3) (oi := ⟨some 96, _, _, _, _, _⟩) (v := ?_) rfl (by kernel_rfl) (by kernel_rfl) (by kernel_rfl) (fun _ _ _ h => h) (Or.inl ⟨by rfl, ?hyt3⟩) (by assumption) ?_; (case hyt3 => ((intro W hSW; (try dsimp only at hSW); obtain ⟨hSW, hSW2⟩ := hSW; go_simp); (all_goals with_reducible rfl))); (try simp only [Act.put, List.setIfInBounds_toArray, List.set_cons_zero, List.set_cons_succ])
                    refine wpAnyH_take (i := 4) (oi := ⟨some 97, _, _, _, _, _⟩) (v := ?_) rfl (by kernel_rfl) (by kernel_rfl) (by kernel_rfl) (fun _ _ _ h => h) (Or.inl ⟨by rfl, ?hyt4⟩) (by assumption) ?_; (case hyt4 => ((intro W hSW; (try dsimp only at hSW); obtain ⟨hSW, hSW2⟩ := hSW; go_simp); (all_goals with_reducible rfl))); (try simp only [Act.put, List.setIfInBounds_toArray, List.set_cons_zero, List.set_cons_succ])
                    refine wpAnyH_ready (rs := [2]) (by kernel_rfl) (by simp) ?_; refine AllReadyH.cons (o := ⟨some 95, _, _, _, _, _⟩) rfl (fun K hK => ?_) AllReadyH.nil; go_simp
                    go_at_call 42
                    refine (H1.out _ (ES.out _ D0)).mono ?_; rintro e w5 ⟨rfl, rfl⟩
                    (try go_simp); refine hK.out _ _ (E.out _ D0) (fun hHx => ?_); clear hK K hHeld; have hHeld := hHx; clear hHx; (try simp only [Act.put, List.setIfInBounds_toArray, List.set_cons_zero, List.set_cons_succ])
                    refine wpAnyH_ready (rs := [5]) (by kernel_rfl) (by simp) ?_; refine AllReadyH.cons (o := ⟨some 98, _, _, _, _, _⟩) rfl (fun K hK => ?_) AllReadyH.nil; go_simp
                    go_at_call 43
                    refine (H2.out _ (ER.out _ D0)).mono ?_; rintro e w6 ⟨rfl, hb6⟩
                    have D6 := D0.trans (hb6.mono D0.size)
                    (try go_simp); refine hK.out _ _ (E.out _ D6) (fun hHx => ?_); clear hK K hHeld; have hHeld := hHx; clear hHx; (try simp only [Act.put, List.setIfInBounds_toArray, List.set_cons_zero, List.set_cons_succ])
                    refine wpAnyH_take (i := 6) (oi := ⟨some 99, _, _, _, _, _⟩) (v := ?_) rfl (by kernel_rfl) (by kernel_rfl) (by kernel_rfl) (fun _ _ _ h => h) (Or.inl ⟨by rfl, ?hyt6⟩) (by assumption) ?_; (case hyt6 => ((intro W hSW; (try dsimp only at hSW); obtain ⟨hSW, hSW2⟩ := hSW; go_simp); (all_goals with_reducible rfl))); (try simp only [Act.put, List.setIfInBounds_toArray, List.set_cons_zero, List.set_cons_succ])
                    refine wpAnyH_done (by kernel_rfl) ?_ _
                    clear hHeld
                    go_wp2_with fail
                    go_roundw
                    case rel => exact ⟨j + 1, by omega, by first | rfl | (rw [hw1]; done) | (go_num; done) | (congr 1; omega), D6⟩
                    case measure => simp [intOf]; omega
                  · have : j = 67 := by omega
                    subst this
                    have hlt5 : ¬ (((67 : Nat) : Int) - 1 < 66) := by omega
                    go_wp2_with fail
                    have R23 := Lib.hid (fun W h => HRO.out W 23 (by omega) h)
                    have R21 := Lib.hid (fun W h => HRO.out W 21 (by omega) h)
                    have R22 := Lib.hid (fun W h => HRO.out W 22 (by omega) h)
                    have R20 := Lib.hid (fun W h => HRO.out W 20 (by omega) h)
                    generalize kcount L 23 = c23 at *
                    generalize kcount L 21 = c21 at *
                    generalize kcount L 22 = c22 at *
                    generalize kcount L 20 = c20 at *
                    have hsum := sumP_in L
                    generalize (sumP L).1 = sn at *
                    generalize (sumP L).2 = sb at *
                    generalize mostP L pn = mp at *
                    have HBb := Lib.hid (fun W h => HB.out W bn h)
                    have HRBb := Lib.hid (fun W h => HRB.out W bn h)
                    generalize bkI L bn = bv at *
                    clear HO HRO HB HRB
                    refine (HSu.out _ (ES.out _ hbr)).mono ?_; rintro e w5 ⟨rfl, rfl⟩
                    have C1 := hbr.drew
                    obtain ⟨x0, x1⟩ := E.out _ hbr
                    go_wp2_with fail
                    refine (HRS.out _ (ER.out _ C1)).mono ?_; rintro e w6 ⟨rfl, hb6⟩
                    have C6 := C1.trans (hb6.mono C1.size)
                    clear hb6 C1 x0 x1
                    go_wp2_with fail
                    refine (ssum_none w6).mono ?_; rintro e w6' ⟨rfl, rfl⟩
                    go_wp2_with fail
                    refine (HC.out _ (ES.out _ C6)).mono ?_; rintro e w7 ⟨rfl, hb7⟩
                    have C7 := C6.trans (hb7.mono C6.size)
                    clear hb7 C6
                    go_wp2_with fail
                    have A8 : Below w7.heap.size w7 (w7.alloc (.cells #[.int .i64 (k : Int), .int .i64 (c23 : Int), .int .i64 (c21 : Int), .int .i64 (c22 : Int), .int .i64 (c20 : Int), .int .i64 qn] 81)) := (Below.refl _ _).alloc (Nat.le_refl _) _
                    have X8 := Lib.hid (Box.new w7 [.int .i64 (k : Int), .int .i64 (c23 : Int), .int .i64 (c21 : Int), .int .i64 (c22 : Int), .int .i64 (c20 : Int), .int .i64 qn] _ 81 rfl _ rfl)
                    have C8 := C7.trans (A8.mono C7.size)
                    replace X8 := Lib.hid X8.out
                    have hT8 : T < w7.heap.size := Nat.lt_of_lt_of_le hxl C7.size
                    have zc8 : w7.heap.size ≤ w7.heap.size := Nat.le_refl _
                    generalize hC1 : w7.heap.size = X1 at *
                    generalize hw8 : w7.alloc (.cells #[.int .i64 (k : Int), .int .i64 (c23 : Int), .int .i64 (c21 : Int), .int .i64 (c22 : Int), .int .i64 (c20 : Int), .int .i64 qn] 81) = w8 at *
                    clear hw8 A8 C7
                    have E8 : ∀ W, Below w8.heap.size w8 W → W.cell? ⟨T, 0, none⟩ = some (.int .i64 (k : Int)) ∧ W.cell? ⟨T, 1, none⟩ = some (.slice q1 m1 c1) := fun W hb => E.out _ (C8.trans (hb.mono C8.size))
                    have ES8 : ∀ W, Below w8.heap.size w8 W → StAt W g (k : Int) L := fun W hb => ES.out _ (C8.trans (hb.mono C8.size))
                    have ER8 : ∀ W, Below w8.heap.size w8 W → RowG 8 W q1 m1 (L.map recVs) := fun W hb => ER.out _ (C8.trans (hb.mono C8.size))
                    replace E8 := Lib.hid E8; replace ES8 := Lib.hid ES8; replace ER8 := Lib.hid ER8
                    have z8 := X8.out.lt
                    have D0 : Below w8.heap.size w8 w8.drew := (Below.refl _ _).drew
                    refine wp_region_held_drew (S := fun W => W.cell? ⟨T, 0, none⟩ = some (.int .i64 (k : Int)) ∧ W.cell? ⟨T, 1, none⟩ = some (.slice q1 m1 c1)) (by kernel_rfl) (E8.out _ D0) (fun hHeld => ?_)
                    refine wpAnyH_take (i := 0) (oi := ⟨some 118, _, _, _, _, _⟩) (v := ?_) rfl (by kernel_rfl) (by kernel_rfl) (by kernel_rfl) (fun _ _ _ h => h) (Or.inl ⟨by rfl, ?hyt0⟩) (by assumption) ?_; (case hyt0 => ((intro W hSW; (try dsimp only at hSW); obtain ⟨hSW, hSW2⟩ := hSW; go_simp); (all_goals with_reducible rfl))); (try simp only [Act.put, List.setIfInBounds_toArray, List.set_cons_zero, List.set_cons_succ])
                    refine wpAnyH_take (i := 1) (oi := ⟨some 119, _, _, _, _, _⟩) (v := ?_) rfl (by kernel_rfl) (by kernel_rfl) (by kernel_rfl) (fun _ _ _ h => h) (Or.inl ⟨by rfl, ?hyt1⟩) (by assumption) ?_; (case hyt1 => ((intro W hSW; (try dsimp only at hSW); obtain ⟨hSW, hSW2⟩ := hSW; go_simp); (all_goals with_reducible rfl))); (try simp only [Act.put, List.setIfInBounds_toArray, List.set_cons_zero, List.set_cons_succ])
                    refine wpAnyH_take (i := 2) (oi := ⟨some 120, _, _, _, _, _⟩) (v := ?_) rfl (by kernel_rfl) (by kernel_rfl) (by kernel_rfl) (fun _ _ _ h => h) (Or.inl ⟨by rfl, ?hyt2⟩) (by assumption) ?_; (case hyt2 => ((intro W hSW; (try dsimp only at hSW); obtain ⟨hSW, hSW2⟩ := hSW; go_simp); (all_goals with_reducible rfl))); (try simp only [Act.put, List.setIfInBounds_toArray, List.set_cons_zero, List.set_cons_succ])
                    refine wpAnyH_take (i := 4) (oi := ⟨some 122, _, _, _, _, _⟩) (v := ?_) rfl (by kernel_rfl) (by kernel_rfl) (by kernel_rfl) (fun _ _ _ h => h) (Or.inl ⟨by rfl, ?hyt4⟩) (by assumption) ?_; (case hyt4 => ((intro W hSW; (try dsimp only at hSW); obtain ⟨hSW, hSW2⟩ := hSW; go_simp); (all_goals with_reducible rfl))); (try simp only [Act.put, List.setIfInBounds_toArray, List.set_cons_zero, List.set_cons_succ])
                    refine wpAnyH_take (i := 6) (oi := ⟨some 124, _, _, _, _, _⟩) (v := ?_) rfl (by kernel_rfl) (by kernel_rfl) (by kernel_rfl) (fun _ _ _ h => h) (Or.inl ⟨by rfl, ?hyt6⟩) (by assumption) ?_; (case hyt6 => ((intro W hSW; (try dsimp only at hSW); obtain ⟨hSW, hSW2⟩ := hSW; go_simp); (all_goals with_reducible rfl))); (try simp only [Act.put, List.setIfInBounds_toArray, List.set_cons_zero, List.set_cons_succ])
                    refine wpAnyH_take (i := 8) (oi := ⟨some 126, _, _, _, _, _⟩) (v := ?_) rfl (by kernel_rfl) (by kernel_rfl) (by kernel_rfl) (fun _ _ _ h => h) (Or.inl ⟨by rfl, ?hyt8⟩) (by assumption) ?_; (case hyt8 => ((intro W hSW; (try dsimp only at hSW); obtain ⟨hSW, hSW2⟩ := hSW; go_simp); (all_goals with_reducible rfl))); (try simp only [Act.put, List.setIfInBounds_toArray, List.set_cons_zero, List.set_cons_succ])
                    refine wpAnyH_take (i := 10) (oi := ⟨some 128, _, _, _, _, _⟩) (v := ?_) rfl (by kernel_rfl) (by kernel_rfl) (by kernel_rfl) (fun _ _ _ h => h) (Or.inl ⟨by rfl, ?hyt10⟩) (by assumption) ?_; (case hyt10 => ((intro W hSW; (try dsimp only at hSW); obtain ⟨hSW, hSW2⟩ := hSW; go_simp); (all_goals with_reducible rfl))); (try simp only [Act.put, List.setIfInBounds_toArray, List.set_cons_zero, List.set_cons_succ])
                    refine wpAnyH_ready (rs := [3, 12]) (by kernel_rfl) (by simp) ?_
                    refine AllReadyH.cons (o := ⟨some 121, _, _, _, _, _⟩) rfl (fun K hK => ?oA0) (AllReadyH.cons (o := ⟨some 27, _, _, _, _, _⟩) rfl (fun K hK => ?oB0) AllReadyH.nil)
                    case' oB0 =>
                      go_simp
                      have BX := (Box.new w8 [.int .i64 0, .int .i64 0, .int .i64 0, .int .i64 0, .int .i64 0, .int .i64 0] _ 81 rfl _ rfl).below ((Below.refl _ _).drew)
                      have DA := ((Below.refl _ w8).alloc (Nat.le_refl _) (.cells #[.int .i64 0, .int .i64 0, .int .i64 0, .int .i64 0, .int .i64 0, .int .i64 0] 81)).drew
                      have DL := Below.refl w8.heap.size w8
                      (try go_simp); refine hK.out _ _ (E8.out _ DA) (fun hHx => ?_); clear hK K hHeld; have hHeld := hHx; clear hHx; (try simp only [Act.put, List.setIfInBounds_toArray, List.set_cons_zero, List.set_cons_succ])
                      refine wpAnyH_ready (rs := [3]) (by kernel_rfl) (by simp) ?_; refine AllReadyH.cons (o := ⟨some 121, _, _, _, _, _⟩) rfl (fun K hK => ?_) AllReadyH.nil; go_simp
                      go_at_call 41
                      refine (R23.out _ (ER8.out _ DA)).mono ?_; rintro e u0 ⟨rfl, hbu0⟩
                      have F0 := DA.trans (hbu0.mono DA.size)
                      replace BX := BX.below hbu0
                      (try go_simp); refine hK.out _ _ (E8.out _ F0) (fun hHx => ?_); clear hK K hHeld; have hHeld := hHx; clear hHx; (try simp only [Act.put, List.setIfInBounds_toArray, List.set_cons_zero, List.set_cons_succ])
                      refine wpAnyH_ready (rs := [5]) (by kernel_rfl) (by simp) ?_; refine AllReadyH.cons (o := ⟨some 123, _, _, _, _, _⟩) rfl (fun K hK => ?_) AllReadyH.nil; go_simp
                      go_at_call 41
                      refine (R21.out _ (ER8.out _ F0)).mono ?_; rintro e u1 ⟨rfl, hbu1⟩
                      have F1 := F0.trans (hbu1.mono F0.size)
                      replace BX := BX.below hbu1
                      (try go_simp); refine hK.out _ _ (E8.out _ F1) (fun hHx => ?_); clear hK K hHeld; have hHeld := hHx; clear hHx; (try simp only [Act.put, List.setIfInBounds_toArray, List.set_cons_zero, List.set_cons_succ])
                      refine wpAnyH_ready (rs := [7]) (by kernel_rfl) (by simp) ?_; refine AllReadyH.cons (o := ⟨some 125, _, _, _, _, _⟩) rfl (fun K hK => ?_) AllReadyH.nil; go_simp
                      go_at_call 41
                      refine (R22.out _ (ER8.out _ F1)).mono ?_; rintro e u2 ⟨rfl, hbu2⟩
                      have F2 := F1.trans (hbu2.mono F1.size)
                      replace BX := BX.below hbu2
                      (try go_simp); refine hK.out _ _ (E8.out _ F2) (fun hHx => ?_); clear hK K hHeld; have hHeld := hHx; clear hHx; (try simp only [Act.put, List.setIfInBounds_toArray, List.set_cons_zero, List.set_cons_succ])
                      refine wpAnyH_ready (rs := [9]) (by kernel_rfl) (by simp) ?_; refine AllReadyH.cons (o := ⟨some 127, _, _, _, _, _⟩) rfl (fun K hK => ?_) AllReadyH.nil; go_simp
                      go_at_call 41
                      refine (R20.out _ (ER8.out _ F2)).mono ?_; rintro e u3 ⟨rfl, hbu3⟩
                      have F3 := F2.trans (hbu3.mono F2.size)
                      replace BX := BX.below hbu3
                      (try go_simp); refine hK.out _ _ (E8.out _ F3) (fun hHx => ?_); clear hK K hHeld; have hHeld := hHx; clear hHx; (try simp only [Act.put, List.setIfInBounds_toArray, List.set_cons_zero, List.set_cons_succ])
                      refine wpAnyH_take (i := 11) (oi := ⟨some 129, _, _, _, _, _⟩) (v := ?_) rfl (by kernel_rfl) (by kernel_rfl) (by kernel_rfl) (fun _ _ _ h => h) (Or.inl ⟨by rfl, ?hyt11⟩) (by assumption) ?_; (case hyt11 => ((intro W hSW; (try dsimp only at hSW); obtain ⟨hSW, hSW2⟩ := hSW; go_simp); (all_goals with_reducible rfl))); (try simp only [Act.put, List.setIfInBounds_toArray, List.set_cons_zero, List.set_cons_succ])
                      have DX := F3
                      generalize hXe : w8.heap.size = X at BX ⊢
                      have hXl : w8.heap.size ≤ X := Nat.le_of_eq hXe
                    case' oA0 =>
                      go_simp
                      go_at_call 41
                      refine (R23.out _ (ER8.out _ D0)).mono ?_; rintro e v1 ⟨rfl, hbv1⟩
                      have D1 := D0.trans (hbv1.mono D0.size)
                      (try go_simp); refine hK.out _ _ (E8.out _ D1) (fun hHx => ?_); clear hK K hHeld; have hHeld := hHx; clear hHx; (try simp only [Act.put, List.setIfInBounds_toArray, List.set_cons_zero, List.set_cons_succ])
                      refine wpAnyH_ready (rs := [5, 12]) (by kernel_rfl) (by simp) ?_
                      refine AllReadyH.cons (o := ⟨some 123, _, _, _, _, _⟩) rfl (fun K hK => ?oA1) (AllReadyH.cons (o := ⟨some 27, _, _, _, _, _⟩) rfl (fun K hK => ?oB1) AllReadyH.nil)
                      case' oB1 =>
                        go_simp
                        have BX := Box.new v1 [.int .i64 0, .int .i64 0, .int .i64 0, .int .i64 0, .int .i64 0, .int .i64 0] _ 81 rfl _ rfl
                        have DA := D1.alloc D1.size (.cells #[.int .i64 0, .int .i64 0, .int .i64 0, .int .i64 0, .int .i64 0, .int .i64 0] 81)
                        have DL := D1
                        (try go_simp); refine hK.out _ _ (E8.out _ DA) (fun hHx => ?_); clear hK K hHeld; have hHeld := hHx; clear hHx; (try simp only [Act.put, List.setIfInBounds_toArray, List.set_cons_zero, List.set_cons_succ])
                        refine wpAnyH_ready (rs := [5]) (by kernel_rfl) (by simp) ?_; refine AllReadyH.cons (o := ⟨some 123, _, _, _, _, _⟩) rfl (fun K hK => ?_) AllReadyH.nil; go_simp
                        go_at_call 41
                        refine (R21.out _ (ER8.out _ DA)).mono ?_; rintro e u1 ⟨rfl, hbu1⟩
                        have F1 := DA.trans (hbu1.mono DA.size)
                        replace BX := BX.below hbu1
                        (try go_simp); refine hK.out _ _ (E8.out _ F1) (fun hHx => ?_); clear hK K hHeld; have hHeld := hHx; clear hHx; (try simp only [Act.put, List.setIfInBounds_toArray, List.set_cons_zero, List.set_cons_succ])
                        refine wpAnyH_ready (rs := [7]) (by kernel_rfl) (by simp) ?_; refine AllReadyH.cons (o := ⟨some 125, _, _, _, _, _⟩) rfl (fun K hK => ?_) AllReadyH.nil; go_simp
                        go_at_call 41
                        refine (R22.out _ (ER8.out _ F1)).mono ?_; rintro e u2 ⟨rfl, hbu2⟩
                        have F2 := F1.trans (hbu2.mono F1.size)
                        replace BX := BX.below hbu2
                        (try go_simp); refine hK.out _ _ (E8.out _ F2) (fun hHx => ?_); clear hK K hHeld; have hHeld := hHx; clear hHx; (try simp only [Act.put, List.setIfInBounds_toArray, List.set_cons_zero, List.set_cons_succ])
                        refine wpAnyH_ready (rs := [9]) (by kernel_rfl) (by simp) ?_; refine AllReadyH.cons (o := ⟨some 127, _, _, _, _, _⟩) rfl (fun K hK => ?_) AllReadyH.nil; go_simp
                        go_at_call 41
                        refine (R20.out _ (ER8.out _ F2)).mono ?_; rintro e u3 ⟨rfl, hbu3⟩
                        have F3 := F2.trans (hbu3.mono F2.size)
                        replace BX := BX.below hbu3
                        (try go_simp); refine hK.out _ _ (E8.out _ F3) (fun hHx => ?_); clear hK K hHeld; have hHeld := hHx; clear hHx; (try simp only [Act.put, List.setIfInBounds_toArray, List.set_cons_zero, List.set_cons_succ])
                        refine wpAnyH_take (i := 11) (oi := ⟨some 129, _, _, _, _, _⟩) (v := ?_) rfl (by kernel_rfl) (by kernel_rfl) (by kernel_rfl) (fun _ _ _ h => h) (Or.inl ⟨by rfl, ?hyt11⟩) (by assumption) ?_; (case hyt11 => ((intro W hSW; (try dsimp only at hSW); obtain ⟨hSW, hSW2⟩ := hSW; go_simp); (all_goals with_reducible rfl))); (try simp only [Act.put, List.setIfInBounds_toArray, List.set_cons_zero, List.set_cons_succ])
                        have DX := F3
                        generalize hXe : v1.heap.size = X at BX ⊢
                        have hXl : w8.heap.size ≤ X := (by rw [← hXe]; exact DL.size)
                      case' oA1 =>
                        go_simp
                        go_at_call 41
                        refine (R21.out _ (ER8.out _ D1)).mono ?_; rintro e v2 ⟨rfl, hbv2⟩
                        have D2 := D1.trans (hbv2.mono D1.size)
                        (try go_simp); refine hK.out _ _ (E8.out _ D2) (fun hHx => ?_); clear hK K hHeld; have hHeld := hHx; clear hHx; (try simp only [Act.put, List.setIfInBounds_toArray, List.set_cons_zero, List.set_cons_succ])
                        refine wpAnyH_ready (rs := [7, 12]) (by kernel_rfl) (by simp) ?_
                        refine AllReadyH.cons (o := ⟨some 125, _, _, _, _, _⟩) rfl (fun K hK => ?oA2) (AllReadyH.cons (o := ⟨some 27, _, _, _, _, _⟩) rfl (fun K hK => ?oB2) AllReadyH.nil)
                        case' oB2 =>
                          go_simp
                          have BX := Box.new v2 [.int .i64 0, .int .i64 0, .int .i64 0, .int .i64 0, .int .i64 0, .int .i64 0] _ 81 rfl _ rfl
                          have DA := D2.alloc D2.size (.cells #[.int .i64 0, .int .i64 0, .int .i64 0, .int .i64 0, .int .i64 0, .int .i64 0] 81)
                          have DL := D2
                          (try go_simp); refine hK.out _ _ (E8.out _ DA) (fun hHx => ?_); clear hK K hHeld; have hHeld := hHx; clear hHx; (try simp only [Act.put, List.setIfInBounds_toArray, List.set_cons_zero, List.set_cons_succ])
                          refine wpAnyH_ready (rs := [7]) (by kernel_rfl) (by simp) ?_; refine AllReadyH.cons (o := ⟨some 125, _, _, _, _, _⟩) rfl (fun K hK => ?_) AllReadyH.nil; go_simp
                          go_at_call 41
                          refine (R22.out _ (ER8.out _ DA)).mono ?_; rintro e u2 ⟨rfl, hbu2⟩
                          have F2 := DA.trans (hbu2.mono DA.size)
                          replace BX := BX.below hbu2
                          (try go_simp); refine hK.out _ _ (E8.out _ F2) (fun hHx => ?_); clear hK K hHeld; have hHeld := hHx; clear hHx; (try simp only [Act.put, List.setIfInBounds_toArray, List.set_cons_zero, List.set_cons_succ])
                          refine wpAnyH_ready (rs := [9]) (by kernel_rfl) (by simp) ?_; refine AllReadyH.cons (o := ⟨some 127, _, _, _, _, _⟩) rfl (fun K hK => ?_) AllReadyH.nil; go_simp
                          go_at_call 41
                          refine (R20.out _ (ER8.out _ F2)).mono ?_; rintro e u3 ⟨rfl, hbu3⟩
                          have F3 := F2.trans (hbu3.mono F2.size)
                          replace BX := BX.below hbu3
                          (try go_simp); refine hK.out _ _ (E8.out _ F3) (fun hHx => ?_); clear hK K hHeld; have hHeld := hHx; clear hHx; (try simp only [Act.put, List.setIfInBounds_toArray, List.set_cons_zero, List.set_cons_succ])
                          refine wpAnyH_take (i := 11) (oi := ⟨some 129, _, _, _, _, _⟩) (v := ?_) rfl (by kernel_rfl) (by kernel_rfl) (by kernel_rfl) (fun _ _ _ h => h) (Or.inl ⟨by rfl, ?hyt11⟩) (by assumption) ?_; (case hyt11 => ((intro W hSW; (try dsimp only at hSW); obtain ⟨hSW, hSW2⟩ := hSW; go_simp); (all_goals with_reducible rfl))); (try simp only [Act.put, List.setIfInBounds_toArray, List.set_cons_zero, List.set_cons_succ])
                          have DX := F3
                          generalize hXe : v2.heap.size = X at BX ⊢
                          have hXl : w8.heap.size ≤ X := (by rw [← hXe]; exact DL.size)
                        case' oA2 =>
                          go_simp
                          go_at_call 41
                          refine (R22.out _ (ER8.out _ D2)).mono ?_; rintro e v3 ⟨rfl, hbv3⟩
                          have D3 := D2.trans (hbv3.mono D2.size)
                          (try go_simp); refine hK.out _ _ (E8.out _ D3) (fun hHx => ?_); clear hK K hHeld; have hHeld := hHx; clear hHx; (try simp only [Act.put, List.setIfInBounds_toArray, List.set_cons_zero, List.set_cons_succ])
                          refine wpAnyH_ready (rs := [9, 12]) (by kernel_rfl) (by simp) ?_
                          refine AllReadyH.cons (o := ⟨some 127, _, _, _, _, _⟩) rfl (fun K hK => ?oA3) (AllReadyH.cons (o := ⟨some 27, _, _, _, _, _⟩) rfl (fun K hK => ?oB3) AllReadyH.nil)
                          case' oB3 =>
                            go_simp
                            have BX := Box.new v3 [.int .i64 0, .int .i64 0, .int .i64 0, .int .i64 0, .int .i64 0, .int .i64 0] _ 81 rfl _ rfl
                            have DA := D3.alloc D3.size (.cells #[.int .i64 0, .int .i64 0, .int .i64 0, .int .i64 0, .int .i64 0, .int .i64 0] 81)
                            have DL := D3
                            (try go_simp); refine hK.out _ _ (E8.out _ DA) (fun hHx => ?_); clear hK K hHeld; have hHeld := hHx; clear hHx; (try simp only [Act.put, List.setIfInBounds_toArray, List.set_cons_zero, List.set_cons_succ])
                            refine wpAnyH_ready (rs := [9]) (by kernel_rfl) (by simp) ?_; refine AllReadyH.cons (o := ⟨some 127, _, _, _, _, _⟩) rfl (fun K hK => ?_) AllReadyH.nil; go_simp
                            go_at_call 41
                            refine (R20.out _ (ER8.out _ DA)).mono ?_; rintro e u3 ⟨rfl, hbu3⟩
                            have F3 := DA.trans (hbu3.mono DA.size)
                            replace BX := BX.below hbu3
                            (try go_simp); refine hK.out _ _ (E8.out _ F3) (fun hHx => ?_); clear hK K hHeld; have hHeld := hHx; clear hHx; (try simp only [Act.put, List.setIfInBounds_toArray, List.set_cons_zero, List.set_cons_succ])
                            refine wpAnyH_take (i := 11) (oi := ⟨some 129, _, _, _, _, _⟩) (v := ?_) rfl (by kernel_rfl) (by kernel_rfl) (by kernel_rfl) (fun _ _ _ h => h) (Or.inl ⟨by rfl, ?hyt11⟩) (by assumption) ?_; (case hyt11 => ((intro W hSW; (try dsimp only at hSW); obtain ⟨hSW, hSW2⟩ := hSW; go_simp); (all_goals with_reducible rfl))); (try simp only [Act.put, List.setIfInBounds_toArray, List.set_cons_zero, List.set_cons_succ])
                            have DX := F3
                            generalize hXe : v3.heap.size = X at BX ⊢
                            have hXl : w8.heap.size ≤ X := (by rw [← hXe]; exact DL.size)
                          case' oA3 =>
                            go_simp
                            go_at_call 41
                            refine (R20.out _ (ER8.out _ D3)).mono ?_; rintro e v4 ⟨rfl, hbv4⟩
                            have D4 := D3.trans (hbv4.mono D3.size)
                            (try go_simp); refine hK.out _ _ (E8.out _ D4) (fun hHx => ?_); clear hK K hHeld; have hHeld := hHx; clear hHx; (try simp only [Act.put, List.setIfInBounds_toArray, List.set_cons_zero, List.set_cons_succ])
                            refine wpAnyH_take (i := 11) (oi := ⟨some 129, _, _, _, _, _⟩) (v := ?_) rfl (by kernel_rfl) (by kernel_rfl) (by kernel_rfl) (fun _ _ _ h => h) (Or.inl ⟨by rfl, ?hyt11⟩) (by assumption) ?_; (case hyt11 => ((intro W hSW; (try dsimp only at hSW); obtain ⟨hSW, hSW2⟩ := hSW; go_simp); (all_goals with_reducible rfl))); (try simp only [Act.put, List.setIfInBounds_toArray, List.set_cons_zero, List.set_cons_succ])
                            refine wpAnyH_ready (rs := [12]) (by kernel_rfl) (by simp) ?_; refine AllReadyH.cons (o := ⟨some 27, _, _, _, _, _⟩) rfl (fun K hK => ?_) AllReadyH.nil; go_simp
                            have BX := Box.new v4 [.int .i64 0, .int .i64 0, .int .i64 0, .int .i64 0, .int .i64 0, .int .i64 0] _ 81 rfl _ rfl
                            have DL := D4
                            have DX := D4.alloc D4.size (.cells #[.int .i64 0, .int .i64 0, .int .i64 0, .int .i64 0, .int .i64 0, .int .i64 0] 81)
                            (try go_simp); refine hK.out _ _ (E8.out _ DX) (fun hHx => ?_); clear hK K hHeld; have hHeld := hHx; clear hHx; (try simp only [Act.put, List.setIfInBounds_toArray, List.set_cons_zero, List.set_cons_succ])
                            clear D4 D3 D2 D1 D0
                            generalize hWX : v4.alloc (.cells #[.int .i64 0, .int .i64 0, .int .i64 0, .int .i64 0, .int .i64 0, .int .i64 0] 81) = WX at *
                            generalize hXe : v4.heap.size = X at BX ⊢
                            have hXl : w8.heap.size ≤ X := (by rw [← hXe]; exact DL.size)
                    all_goals (
                      have f0 := BX.free 0 (by simp); have x0 := BX.cell 0 _ rfl
                      have f1 := BX.free 1 (by simp); have x1 := BX.cell 1 _ rfl
                      have f2 := BX.free 2 (by simp); have x2 := BX.cell 2 _ rfl
                      have f3 := BX.free 3 (by simp); have x3 := BX.cell 3 _ rfl
                      have f4 := BX.free 4 (by simp); have x4 := BX.cell 4 _ rfl
                      have f5 := BX.free 5 (by simp); have x5 := BX.cell 5 _ rfl
                      have xl := BX.lt
                      have hXT : T ≠ X := by omega
                      have hX1X : X1 ≠ X := by omega
                      refine wpAnyH_ready (rs := [13]) (by kernel_rfl) (by simp) ?_; refine AllReadyH.cons (o := ⟨none, _, _, _, _, _⟩) rfl (fun K hK => ?_) AllReadyH.nil; go_simp
                      have hTurn : ∀ (W : World) (_ : X < W.heap.size) (u0 u1 u2 u3 u4 u5 : Value), Turn (fun k => k = X) W ((((((W.setCell ⟨X, 0, none⟩ u0).setCell ⟨X, 1, none⟩ u1).setCell ⟨X, 2, none⟩ u2).setCell ⟨X, 3, none⟩ u3).setCell ⟨X, 4, none⟩ u4).setCell ⟨X, 5, none⟩ u5) := fun W _ u0 u1 u2 u3 u4 u5 => (((((((Turn.refl (fun k => k = X) W).setCell _ (fun _ => rfl) _).setCell _ (fun _ => rfl) _).setCell _ (fun _ => rfl) _).setCell _ (fun _ => rfl) _).setCell _ (fun _ => rfl) _).setCell _ (fun _ => rfl) _)
                      have tF := hTurn _ BX.lt (.int .i64 (k : Int)) (.int .i64 (c23 : Int)) (.int .i64 (c21 : Int)) (.int .i64 (c22 : Int)) (.int .i64 (c20 : Int)) (.int .i64 qn)
                      have BF := (((((BX.set 0 (.int .i64 (k : Int)) (by simp)).set 1 (.int .i64 (c23 : Int)) (by simp)).set 2 (.int .i64 (c21 : Int)) (by simp)).set 3 (.int .i64 (c22 : Int)) (by simp)).set 4 (.int .i64 (c20 : Int)) (by simp)).set 5 (.int .i64 qn) (by simp)
                      simp only [List.set_cons_zero, List.set_cons_succ] at BF
                      have DF : Below w8.heap.size w8 _ := DX.trans (tF.below DX.size (fun k hk e => by omega))
                      (try go_simp); refine hK.out _ _ (E8.out _ DF) (fun hHx => ?_); clear hK K hHeld; have hHeld := hHx; clear hHx; (try simp only [Act.put, List.setIfInBounds_toArray, List.set_cons_zero, List.set_cons_succ])
                      refine wpAnyH_done (by kernel_rfl) ?_ _
                      have BC := X8.out.below DF
                      clear hTurn tF f0 f1 f2 f3 f4 f5 x0 x1 x2 x3 x4 x5 BX hHeld DX
                      generalize hWF : ((((((_ : World).setCell ⟨X, 0, none⟩ _).setCell ⟨X, 1, none⟩ _).setCell ⟨X, 2, none⟩ _).setCell ⟨X, 3, none⟩ _).setCell ⟨X, 4, none⟩ _).setCell ⟨X, 5, none⟩ _ = WF at *
                      clear hWF
                      go_wp2_with fail
                      have C37 : ∀ W, Below WF.heap.size WF W → Below w8.heap.size w8 W := fun W hb => DF.trans (hb.mono DF.size)
                      have E37 : ∀ W, Below WF.heap.size WF W → W.cell? ⟨T, 0, none⟩ = some (.int .i64 (k : Int)) ∧ W.cell? ⟨T, 1, none⟩ = some (.slice q1 m1 c1) ∧ W.cell? ⟨X1, 0, none⟩ = some (.int .i64 (k : Int)) ∧ W.cell? ⟨X1, 1, none⟩ = some (.int .i64 (c23 : Int)) ∧ W.cell? ⟨X1, 2, none⟩ = some (.int .i64 (c21 : Int)) ∧ W.cell? ⟨X1, 3, none⟩ = some (.int .i64 (c22 : Int)) ∧ W.cell? ⟨X1, 4, none⟩ = some (.int .i64 (c20 : Int)) ∧ W.cell? ⟨X1, 5, none⟩ = some (.int .i64 qn) ∧ W.cell? ⟨X, 0, none⟩ = some (.int .i64 (k : Int)) ∧ W.cell? ⟨X, 1, none⟩ = some (.int .i64 (c23 : Int)) ∧ W.cell? ⟨X, 2, none⟩ = some (.int .i64 (c21 : Int)) ∧ W.cell? ⟨X, 3, none⟩ = some (.int .i64 (c22 : Int)) ∧ W.cell? ⟨X, 4, none⟩ = some (.int .i64 (c20 : Int)) ∧ W.cell? ⟨X, 5, none⟩ = some (.int .i64 qn) := fun W hb => ⟨(E8.out _ (C37 W hb)).1, (E8.out _ (C37 W hb)).2, (BC.below hb).cell 0 _ rfl, (BC.below hb).cell 1 _ rfl, (BC.below hb).cell 2 _ rfl, (BC.below hb).cell 3 _ rfl, (BC.below hb).cell 4 _ rfl, (BC.below hb).cell 5 _ rfl, (BF.below hb).cell 0 _ rfl, (BF.below hb).cell 1 _ rfl, (BF.below hb).cell 2 _ rfl, (BF.below hb).cell 3 _ rfl, (BF.below hb).cell 4 _ rfl, (BF.below hb).cell 5 _ rfl⟩
                      replace E37 := Lib.hid E37; replace C37 := Lib.hid C37; replace BF := Lib.hid BF; replace BC := Lib.hid BC
                      have G0 : Below WF.heap.size WF WF.drew := (Below.refl _ _).drew
                      have nq := fun W => neqCnt W (k : Int) (c23 : Int) (c21 : Int) (c22 : Int) (c20 : Int) qn
                      refine wp_region_held_drew (S := fun W => W.cell? ⟨T, 0, none⟩ = some (.int .i64 (k : Int)) ∧ W.cell? ⟨T, 1, none⟩ = some (.slice q1 m1 c1) ∧ W.cell? ⟨X1, 0, none⟩ = some (.int .i64 (k : Int)) ∧ W.cell? ⟨X1, 1, none⟩ = some (.int .i64 (c23 : Int)) ∧ W.cell? ⟨X1, 2, none⟩ = some (.int .i64 (c21 : Int)) ∧ W.cell? ⟨X1, 3, none⟩ = some (.int .i64 (c22 : Int)) ∧ W.cell? ⟨X1, 4, none⟩ = some (.int .i64 (c20 : Int)) ∧ W.cell? ⟨X1, 5, none⟩ = some (.int .i64 qn) ∧ W.cell? ⟨X, 0, none⟩ = some (.int .i64 (k : Int)) ∧ W.cell? ⟨X, 1, none⟩ = some (.int .i64 (c23 : Int)) ∧ W.cell? ⟨X, 2, none⟩ = some (.int .i64 (c21 : Int)) ∧ W.cell? ⟨X, 3, none⟩ = some (.int .i64 (c22 : Int)) ∧ W.cell? ⟨X, 4, none⟩ = some (.int .i64 (c20 : Int)) ∧ W.cell? ⟨X, 5, none⟩ = some (.int .i64 qn)) (by kernel_rfl) (E37.out _ G0) (fun hHeld => ?_)
                      refine wpAnyH_take (i := 0) (oi := ⟨some 130, _, _, _, _, _⟩) (v := ?_) rfl (by kernel_rfl) (by kernel_rfl) (by kernel_rfl) (fun _ _ _ h => h) (Or.inl ⟨by rfl, ?hyt0⟩) (by assumption) ?_; (case hyt0 => ((intro W hSW; (try dsimp only at hSW); obtain ⟨s0, s1, p0, p1, p2, p3, p4, p5, q0, q1, q2, q3, q4, q5⟩ := hSW; go_simp); (all_goals with_reducible rfl))); (try simp only [Act.put, List.setIfInBounds_toArray, List.set_cons_zero, List.set_cons_succ])
                      refine wpAnyH_take (i := 1) (oi := ⟨some 131, _, _, _, _, _⟩) (v := ?_) rfl (by kernel_rfl) (by kernel_rfl) (by kernel_rfl) (fun _ _ _ h => h) (Or.inl ⟨by rfl, ?hyt1⟩) (by assumption) ?_; (case hyt1 => ((intro W hSW; (try dsimp only at hSW); obtain ⟨s0, s1, p0, p1, p2, p3, p4, p5, q0, q1, q2, q3, q4, q5⟩ := hSW; go_simp); (all_goals with_reducible rfl))); (try simp only [Act.put, List.setIfInBounds_toArray, List.set_cons_zero, List.set_cons_succ])
                      refine wpAnyH_take (i := 3) (oi := ⟨some 133, _, _, _, _, _⟩) (v := ?_) rfl (by kernel_rfl) (by kernel_rfl) (by kernel_rfl) (fun _ _ _ h => h) (Or.inl ⟨by rfl, ?hyt3⟩) (by assumption) ?_; (case hyt3 => ((intro W hSW; (try dsimp only at hSW); obtain ⟨s0, s1, p0, p1, p2, p3, p4, p5, q0, q1, q2, q3, q4, q5⟩ := hSW; go_simp); (all_goals with_reducible rfl))); (try simp only [Act.put, List.setIfInBounds_toArray, List.set_cons_zero, List.set_cons_succ])
                      refine wpAnyH_take (i := 4) (oi := ⟨some 134, _, _, _, _, _⟩) (v := ?_) rfl (by kernel_rfl) (by kernel_rfl) (by kernel_rfl) (fun _ _ _ h => h) (Or.inl ⟨by rfl, ?hyt4⟩) (by assumption) ?_; (case hyt4 => ((intro W hSW; (try dsimp only at hSW); obtain ⟨s0, s1, p0, p1, p2, p3, p4, p5, q0, q1, q2, q3, q4, q5⟩ := hSW; go_simp); (all_goals with_reducible rfl))); (try simp only [Act.put, List.setIfInBounds_toArray, List.set_cons_zero, List.set_cons_succ])
                      refine wpAnyH_ready (rs := [2]) (by kernel_rfl) (by simp) ?_; refine AllReadyH.cons (o := ⟨some 132, _, _, _, _, _⟩) rfl (fun K hK => ?_) AllReadyH.nil; go_simp
                      go_at_call 42
                      refine (HBb.out _ (ES8.out _ (C37.out _ G0))).mono ?_; rintro e y1 ⟨rfl, rfl⟩
                      (try go_simp); refine hK.out _ _ (E37.out _ G0) (fun hHx => ?_); clear hK K hHeld; have hHeld := hHx; clear hHx; (try simp only [Act.put, List.setIfInBounds_toArray, List.set_cons_zero, List.set_cons_succ])
                      refine wpAnyH_ready (rs := [5]) (by kernel_rfl) (by simp) ?_; refine AllReadyH.cons (o := ⟨some 135, _, _, _, _, _⟩) rfl (fun K hK => ?_) AllReadyH.nil; go_simp
                      go_at_call 43
                      refine (HRBb.out _ (ER8.out _ (C37.out _ G0))).mono ?_; rintro e y2 ⟨rfl, hy2⟩
                      have G2 := G0.trans (hy2.mono G0.size)
                      (try go_simp); refine hK.out _ _ (E37.out _ G2) (fun hHx => ?_); clear hK K hHeld; have hHeld := hHx; clear hHx; (try simp only [Act.put, List.setIfInBounds_toArray, List.set_cons_zero, List.set_cons_succ])
                      refine wpAnyH_take (i := 6) (oi := ⟨some 136, _, _, _, _, _⟩) (v := ?_) rfl (by kernel_rfl) (by kernel_rfl) (by kernel_rfl) (fun _ _ _ h => h) (Or.inl ⟨by rfl, ?hyt6⟩) (by assumption) ?_; (case hyt6 => ((intro W hSW; (try dsimp only at hSW); obtain ⟨s0, s1, p0, p1, p2, p3, p4, p5, q0, q1, q2, q3, q4, q5⟩ := hSW; go_simp); (all_goals with_reducible rfl))); (try simp only [Act.put, List.setIfInBounds_toArray, List.set_cons_zero, List.set_cons_succ])
                      refine wpAnyH_take (i := 7) (oi := ⟨some 137, _, _, _, _, _⟩) (v := ?_) rfl (by kernel_rfl) (by kernel_rfl) (by kernel_rfl) (fun _ _ _ h => h) (Or.inl ⟨by rfl, ?hyt7⟩) (by assumption) ?_; (case hyt7 => ((intro W hSW; (try dsimp only at hSW); obtain ⟨s0, s1, p0, p1, p2, p3, p4, p5, q0, q1, q2, q3, q4, q5⟩ := hSW; go_simp); (all_goals with_reducible rfl))); (try simp only [Act.put, List.setIfInBounds_toArray, List.set_cons_zero, List.set_cons_succ])
                      refine wpAnyH_take (i := 8) (oi := ⟨some 138, _, _, _, _, _⟩) (v := ?_) rfl (by kernel_rfl) (by kernel_rfl) (by kernel_rfl) (fun _ _ _ h => h) (Or.inl ⟨by rfl, ?hyt8⟩) (by assumption) ?_; (case hyt8 => ((intro W hSW; (try dsimp only at hSW); obtain ⟨s0, s1, p0, p1, p2, p3, p4, p5, q0, q1, q2, q3, q4, q5⟩ := hSW; go_simp); (all_goals with_reducible rfl))); (try simp only [Act.put, List.setIfInBounds_toArray, List.set_cons_zero, List.set_cons_succ])
                      refine wpAnyH_take (i := 9) (oi := ⟨some 139, _, _, _, _, _⟩) (v := ?_) rfl (by kernel_rfl) (by kernel_rfl) (by kernel_rfl) (fun _ _ _ h => h) (Or.inl ⟨by rfl, ?hyt9⟩) (by assumption) ?_; (case hyt9 => ((intro W hSW; (try dsimp only at hSW); obtain ⟨s0, s1, p0, p1, p2, p3, p4, p5, q0, q1, q2, q3, q4, q5⟩ := hSW; go_simp); (all_goals with_reducible rfl))); (try simp only [Act.put, List.setIfInBounds_toArray, List.set_cons_zero, List.set_cons_succ])
                      refine wpAnyH_take (i := 10) (oi := ⟨some 140, _, _, _, _, _⟩) (v := ?_) rfl (by kernel_rfl) (by kernel_rfl) (by kernel_rfl) (fun _ _ _ h => h) (Or.inl ⟨by rfl, ?hyt10⟩) (by assumption) ?_; (case hyt10 => ((intro W hSW; (try dsimp only at hSW); obtain ⟨s0, s1, p0, p1, p2, p3, p4, p5, q0, q1, q2, q3, q4, q5⟩ := hSW; go_simp); (all_goals with_reducible rfl))); (try simp only [Act.put, List.setIfInBounds_toArray, List.set_cons_zero, List.set_cons_succ])
                      refine wpAnyH_take (i := 11) (oi := ⟨some 141, _, _, _, _, _⟩) (v := ?_) rfl (by kernel_rfl) (by kernel_rfl) (by kernel_rfl) (fun _ _ _ h => h) (Or.inl ⟨by rfl, ?hyt11⟩) (by assumption) ?_; (case hyt11 => ((intro W hSW; (try dsimp only at hSW); obtain ⟨s0, s1, p0, p1, p2, p3, p4, p5, q0, q1, q2, q3, q4, q5⟩ := hSW; go_simp); (all_goals with_reducible rfl))); (try simp only [Act.put, List.setIfInBounds_toArray, List.set_cons_zero, List.set_cons_succ])
                      refine wpAnyH_take (i := 12) (oi := ⟨some 142, _, _, _, _, _⟩) (v := ?_) rfl (by kernel_rfl) (by kernel_rfl) (by kernel_rfl) (fun _ _ _ h => h) (Or.inl ⟨by rfl, ?hyt12⟩) (by assumption) ?_; (case hyt12 => ((intro W hSW; (try dsimp only at hSW); obtain ⟨s0, s1, p0, p1, p2, p3, p4, p5, q0, q1, q2, q3, q4, q5⟩ := hSW; go_simp); (all_goals with_reducible rfl))); (try simp only [Act.put, List.setIfInBounds_toArray, List.set_cons_zero, List.set_cons_succ])
                      refine wpAnyH_take (i := 13) (oi := ⟨some 143, _, _, _, _, _⟩) (v := ?_) rfl (by kernel_rfl) (by kernel_rfl) (by kernel_rfl) (fun _ _ _ h => h) (Or.inl ⟨by rfl, ?hyt13⟩) (by assumption) ?_; (case hyt13 => ((intro W hSW; (try dsimp only at hSW); obtain ⟨s0, s1, p0, p1, p2, p3, p4, p5, q0, q1, q2, q3, q4, q5⟩ := hSW; go_simp); (all_goals with_reducible rfl))); (try simp only [Act.put, List.setIfInBounds_toArray, List.set_cons_zero, List.set_cons_succ])
                      refine wpAnyH_take (i := 14) (oi := ⟨some 144, _, _, _, _, _⟩) (v := ?_) rfl (by kernel_rfl) (by kernel_rfl) (by kernel_rfl) (fun _ _ _ h => h) (Or.inl ⟨by rfl, ?hyt14⟩) (by assumption) ?_; (case hyt14 => ((intro W hSW; (try dsimp only at hSW); obtain ⟨s0, s1, p0, p1, p2, p3, p4, p5, q0, q1, q2, q3, q4, q5⟩ := hSW; go_simp); (all_goals with_reducible rfl))); (try simp only [Act.put, List.setIfInBounds_toArray, List.set_cons_zero, List.set_cons_succ])
                      refine wpAnyH_take (i := 15) (oi := ⟨some 145, _, _, _, _, _⟩) (v := ?_) rfl (by kernel_rfl) (by kernel_rfl) (by kernel_rfl) (fun _ _ _ h => h) (Or.inl ⟨by rfl, ?hyt15⟩) (by assumption) ?_; (case hyt15 => ((intro W hSW; (try dsimp only at hSW); obtain ⟨s0, s1, p0, p1, p2, p3, p4, p5, q0, q1, q2, q3, q4, q5⟩ := hSW; go_simp); (all_goals with_reducible rfl))); (try simp only [Act.put, List.setIfInBounds_toArray, List.set_cons_zero, List.set_cons_succ])
                      refine wpAnyH_take (i := 16) (oi := ⟨some 146, _, _, _, _, _⟩) (v := ?_) rfl (by kernel_rfl) (by kernel_rfl) (by kernel_rfl) (fun _ _ _ h => h) (Or.inl ⟨by rfl, ?hyt16⟩) (by assumption) ?_; (case hyt16 => ((intro W hSW; (try dsimp only at hSW); obtain ⟨s0, s1, p0, p1, p2, p3, p4, p5, q0, q1, q2, q3, q4, q5⟩ := hSW; go_simp); (all_goals with_reducible rfl))); (try simp only [Act.put, List.setIfInBounds_toArray, List.set_cons_zero, List.set_cons_succ])
                      refine wpAnyH_take (i := 17) (oi := ⟨some 147, _, _, _, _, _⟩) (v := ?_) rfl (by kernel_rfl) (by kernel_rfl) (by kernel_rfl) (fun _ _ _ h => h) (Or.inl ⟨by rfl, ?hyt17⟩) (by assumption) ?_; (case hyt17 => ((intro W hSW; (try dsimp only at hSW); obtain ⟨s0, s1, p0, p1, p2, p3, p4, p5, q0, q1, q2, q3, q4, q5⟩ := hSW; go_simp); (all_goals with_reducible rfl))); (try simp only [Act.put, List.setIfInBounds_toArray, List.set_cons_zero, List.set_cons_succ])
                      refine wpAnyH_take (i := 18) (oi := ⟨some 148, _, _, _, _, _⟩) (v := ?_) rfl (by kernel_rfl) (by kernel_rfl) (by kernel_rfl) (fun _ _ _ h => h) (Or.inl ⟨by rfl, ?hyt18⟩) (by assumption) ?_; (case hyt18 => ((intro W hSW; (try dsimp only at hSW); obtain ⟨s0, s1, p0, p1, p2, p3, p4, p5, q0, q1, q2, q3, q4, q5⟩ := hSW; go_simp); (all_goals with_reducible rfl))); (try simp only [Act.put, List.setIfInBounds_toArray, List.set_cons_zero, List.set_cons_succ])
                      refine wpAnyH_take (i := 19) (oi := ⟨some 149, _, _, _, _, _⟩) (v := ?_) rfl (by kernel_rfl) (by kernel_rfl) (by kernel_rfl) (fun _ _ _ h => h) (Or.inl ⟨by rfl, ?hyt19⟩) (by assumption) ?_; (case hyt19 => ((intro W hSW; (try dsimp only at hSW); obtain ⟨s0, s1, p0, p1, p2, p3, p4, p5, q0, q1, q2, q3, q4, q5⟩ := hSW; go_simp); (all_goals with_reducible rfl))); (try simp only [Act.put, List.setIfInBounds_toArray, List.set_cons_zero, List.set_cons_succ])
                      refine wpAnyH_take (i := 20) (oi := ⟨some 150, _, _, _, _, _⟩) (v := ?_) rfl (by kernel_rfl) (by kernel_rfl) (by kernel_rfl) (fun _ _ _ h => h) (Or.inl ⟨by rfl, ?hyt20⟩) (by assumption) ?_; (case hyt20 => ((intro W hSW; (try dsimp only at hSW); obtain ⟨s0, s1, p0, p1, p2, p3, p4, p5, q0, q1, q2, q3, q4, q5⟩ := hSW; go_simp); (all_goals with_reducible rfl))); (try simp only [Act.put, List.setIfInBounds_toArray, List.set_cons_zero, List.set_cons_succ])
                      refine wpAnyH_take (i := 21) (oi := ⟨some 151, _, _, _, _, _⟩) (v := ?_) rfl (by kernel_rfl) (by kernel_rfl) (by kernel_rfl) (fun _ _ _ h => h) (Or.inl ⟨by rfl, ?hyt21⟩) (by assumption) ?_; (case hyt21 => ((intro W hSW; (try dsimp only at hSW); obtain ⟨s0, s1, p0, p1, p2, p3, p4, p5, q0, q1, q2, q3, q4, q5⟩ := hSW; go_simp); (all_goals with_reducible rfl))); (try simp only [Act.put, List.setIfInBounds_toArray, List.set_cons_zero, List.set_cons_succ])
                      refine wpAnyH_take (i := 22) (oi := ⟨some 152, _, _, _, _, _⟩) (v := ?_) rfl (by kernel_rfl) (by kernel_rfl) (by kernel_rfl) (fun _ _ _ h => h) (Or.inl ⟨by rfl, ?hyt22⟩) (by assumption) ?_; (case hyt22 => ((intro W hSW; (try dsimp only at hSW); obtain ⟨s0, s1, p0, p1, p2, p3, p4, p5, q0, q1, q2, q3, q4, q5⟩ := hSW; go_simp); (all_goals with_reducible rfl))); (try simp only [Act.put, List.setIfInBounds_toArray, List.set_cons_zero, List.set_cons_succ])
                      refine wpAnyH_take (i := 23) (oi := ⟨some 153, _, _, _, _, _⟩) (v := ?_) rfl (by kernel_rfl) (by kernel_rfl) (by kernel_rfl) (fun _ _ _ h => h) (Or.inl ⟨by rfl, ?hyt23⟩) (by assumption) ?_; (case hyt23 => ((intro W hSW; (try dsimp only at hSW); obtain ⟨s0, s1, p0, p1, p2, p3, p4, p5, q0, q1, q2, q3, q4, q5⟩ := hSW; go_simp); (all_goals with_reducible rfl))); (try simp only [Act.put, List.setIfInBounds_toArray, List.set_cons_zero, List.set_cons_succ])
                      refine wpAnyH_take (i := 24) (oi := ⟨some 154, _, _, _, _, _⟩) (v := ?_) rfl (by kernel_rfl) (by kernel_rfl) (by kernel_rfl) (fun _ _ _ h => h) (Or.inl ⟨by rfl, ?hyt24⟩) (by assumption) ?_; (case hyt24 => ((intro W hSW; (try dsimp only at hSW); obtain ⟨s0, s1, p0, p1, p2, p3, p4, p5, q0, q1, q2, q3, q4, q5⟩ := hSW; go_simp); (all_goals with_reducible rfl))); (try simp only [Act.put, List.setIfInBounds_toArray, List.set_cons_zero, List.set_cons_succ])
                      refine wpAnyH_take (i := 26) (oi := ⟨some 156, _, _, _, _, _⟩) (v := ?_) rfl (by kernel_rfl) (by kernel_rfl) (by kernel_rfl) (fun _ _ _ h => h) (Or.inl ⟨by rfl, ?hyt26⟩) (by assumption) ?_; (case hyt26 => ((intro W hSW; (try dsimp only at hSW); obtain ⟨s0, s1, p0, p1, p2, p3, p4, p5, q0, q1, q2, q3, q4, q5⟩ := hSW; go_simp); (all_goals with_reducible rfl))); (try simp only [Act.put, List.setIfInBounds_toArray, List.set_cons_zero, List.set_cons_succ])
                      refine wpAnyH_take (i := 27) (oi := ⟨some 157, _, _, _, _, _⟩) (v := ?_) rfl (by kernel_rfl) (by kernel_rfl) (by kernel_rfl) (fun _ _ _ h => h) (Or.inl ⟨by rfl, ?hyt27⟩) (by assumption) ?_; (case hyt27 => ((intro W hSW; (try dsimp only at hSW); obtain ⟨s0, s1, p0, p1, p2, p3, p4, p5, q0, q1, q2, q3, q4, q5⟩ := hSW; go_simp); (all_goals with_reducible rfl))); (try simp only [Act.put, List.setIfInBounds_toArray, List.set_cons_zero, List.set_cons_succ])
                      refine wpAnyH_ready (rs := [25]) (by kernel_rfl) (by simp) ?_; refine AllReadyH.cons (o := ⟨some 155, _, _, _, _, _⟩) rfl (fun K hK => ?_) AllReadyH.nil; go_simp
                      go_at_call 47
                      refine (HM.out _ (ES8.out _ (C37.out _ G2))).mono ?_; rintro e y3 ⟨rfl, rfl⟩
                      (try go_simp); refine hK.out _ _ (E37.out _ G2) (fun hHx => ?_); clear hK K hHeld; have hHeld := hHx; clear hHx; (try simp only [Act.put, List.setIfInBounds_toArray, List.set_cons_zero, List.set_cons_succ])
                      refine wpAnyH_ready (rs := [28]) (by kernel_rfl) (by simp) ?_; refine AllReadyH.cons (o := ⟨some 158, _, _, _, _, _⟩) rfl (fun K hK => ?_) AllReadyH.nil; go_simp
                      go_at_call 48
                      refine (HRM.out _ (ER8.out _ (C37.out _ G2))).mono ?_; rintro e y4 ⟨rfl, hy4⟩
                      have G4 := G2.trans (hy4.mono G2.size)
                      (try go_simp); refine hK.out _ _ (E37.out _ G4) (fun hHx => ?_); clear hK K hHeld; have hHeld := hHx; clear hHx; (try simp only [Act.put, List.setIfInBounds_toArray, List.set_cons_zero, List.set_cons_succ])
                      refine wpAnyH_take (i := 29) (oi := ⟨some 159, _, _, _, _, _⟩) (v := ?_) rfl (by kernel_rfl) (by kernel_rfl) (by kernel_rfl) (fun _ _ _ h => h) (Or.inl ⟨by rfl, ?hyt29⟩) (by assumption) ?_; (case hyt29 => ((intro W hSW; (try dsimp only at hSW); obtain ⟨s0, s1, p0, p1, p2, p3, p4, p5, q0, q1, q2, q3, q4, q5⟩ := hSW; go_simp); (all_goals with_reducible rfl))); (try simp only [Act.put, List.setIfInBounds_toArray, List.set_cons_zero, List.set_cons_succ])
                      refine wpAnyH_take (i := 30) (oi := ⟨some 160, _, _, _, _, _⟩) (v := ?_) rfl (by kernel_rfl) (by kernel_rfl) (by kernel_rfl) (fun _ _ _ h => h) (Or.inl ⟨by rfl, ?hyt30⟩) (by assumption) ?_; (case hyt30 => ((intro W hSW; (try dsimp only at hSW); obtain ⟨s0, s1, p0, p1, p2, p3, p4, p5, q0, q1, q2, q3, q4, q5⟩ := hSW; go_simp); (all_goals with_reducible rfl))); (try simp only [Act.put, List.setIfInBounds_toArray, List.set_cons_zero, List.set_cons_succ])
                      refine wpAnyH_done (by kernel_rfl) ?_ _
                      have ez := fun W => eqlCnt W 0 0 0 0 0 0 0 0 0 0 0 0 rfl rfl rfl rfl rfl rfl
                      have BF4 := Bk.trans ((C8.trans ((C37.out _ G4).mono C8.size)).mono zw)
                      clear hHeld nq
                      go_wp2_with fail
                      refine (of_none 31 _).mono ?_; rintro e y5 ⟨rfl, rfl⟩
                      go_wp2_with fail
                      refine (bucket_none 1 _).mono ?_; rintro e y6 ⟨rfl, rfl⟩
                      go_wp2_with fail
                      refine (most_none 50 _).mono ?_; rintro e y7 ⟨rfl, rfl⟩
                      go_wp2_with fail
                      refine (counts_none 3 _).mono ?_; rintro e y8 ⟨rfl, hy8⟩
                      have BF8 := BF4.trans (hy8.mono BF4.size)
                      go_wp2_with fail
                      refine (sshow_none 3 _).mono ?_; rintro e y9 ⟨rfl, rfl⟩
                      go_wp2_with fail
                      go_ret
                      exact ⟨rfl, BF8⟩)
end Go.Proofs.YtdmpopdacbdnlaaDoor
