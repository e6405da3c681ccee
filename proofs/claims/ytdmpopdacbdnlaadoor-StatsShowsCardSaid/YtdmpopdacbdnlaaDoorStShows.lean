/- The walk of StatsShows. -/
import Derived.Test.YtdmpopdacbdnlaaDoorStSaw
import Derived.Test.YtdmpopdacbdnlaaDoorStRShow
import Derived.Test.YtdmpopdacbdnlaaDoorRecOpen
import Derived.Test.YtdmpopdacbdnlaaDoorChecked
import Derived.Test.YtdmpopdacbdnlaaDoorRows
namespace Go.Proofs.YtdmpopdacbdnlaaDoor
open Go.RowKit
set_option linter.unusedVariables false
set_option linter.unusedSimpArgs false
set_option maxHeartbeats 4000000
set_option maxRecDepth 20000
theorem take_seen2 {l : List Rec} {j : Nat} (h : j < l.length) : seenL (l.take (j + 1)) = if mayB (l.getD j (Rec.zero 0)) = true then seenL (l.take j) ++ [l.getD j (Rec.zero 0)] else seenL (l.take j) := by
  rw [take_succ25 h, seenL_snoc]
theorem statsShows_walk (q : Option Addr) (n c : Nat) (cs : List (List Value)) (tn : Int) (ht : 0 ≤ tn ∧ tn ≤ 255) (qn : Int) (hp : -9223372036854775808 ≤ qn ∧ qn ≤ 9223372036854775807) (w : World) (z : RowG 8 w q n cs) (y : ∀ c ∈ cs, OkAll [.int .u8, .int .i64, .int .u64, .int .i64, .int .i64, .int .i64, .bool, .str] c) (hK0 : KeptS w) :
    Calls Tryd.prog 6 #[.slice q n c, .int .u8 tn, .int .i64 qn] w fun e w' => e = .returned (.bool true) ∧ Below w.heap.size w w' := by
  obtain ⟨l, hR, hok⟩ := recs_of z y
  clear z y
  have hll : l.length = n := by have := hR.length; rw [List.length_map] at this; exact this
  obtain ⟨tm, rfl⟩ := Int.eq_ofNat_of_zero_le ht.1
  have HF := Lib.hid (fun W (h : RowG 8 W q n (l.map recVs)) => few25_any q n c l W h (fun r hr => (hok r hr).text))
  generalize hfv : few25 l = fv at *
  replace hfv := Lib.hid hfv
  replace hR := Lib.hid hR
  replace hok := Lib.hid hok
  replace hK0 := Lib.hid hK0
  go_enter Tryd.func6, Tryd.ntmps6
  go_wp2_with fail
  refine (sawake_any w hK0.out).mono ?_; rintro e w1 ⟨rfl, B1⟩
  go_wp2_with fail
  refine (HF.out _ (hR.out.below B1)).mono ?_; rintro e w1' ⟨rfl, rfl⟩
  cases fv with
  | false =>
    go_wp2_with fail
    go_ret
    exact ⟨rfl, B1⟩
  | true =>
    have h60 : n ≤ 60 := by
      have := hfv.out
      unfold few25 at this
      rw [Bool.and_eq_true, decide_eq_true_iff] at this
      omega
    go_wp2_with fail
    refine (snew_any _).mono ?_; rintro e w2 ⟨rfl, hS2, hb2⟩
    have B2 := B1.trans (hb2.mono B1.size)
    have zg := B1.size
    have zg2 := hS2.lt
    generalize hg : w1'.heap.size = g at *
    clear hb2 B1
    have A3 : Below w2.heap.size w2 (w2.alloc (.cells #[.int .i64 0, .slice none 0 0] 65)) := (Below.refl _ _).alloc (Nat.le_refl _) _
    have X3 := Lib.hid (Box.new w2 [.int .i64 0, .slice none 0 0] _ 65 rfl _ rfl)
    have hS3 := Lib.hid (StAt.below hS2 A3)
    have B3 := B2.trans (A3.mono B2.size)
    replace X3 := Lib.hid X3.out
    have zT : g < w2.heap.size := zg2
    go_wp2_with fail
    generalize hT : w2.heap.size = T at *
    generalize w2.alloc (.cells #[.int .i64 0, .slice none 0 0] 65) = w3 at *
    clear A3 hS2
    have tb : ∀ W W' : World, Below w.heap.size w W → Turn (fun k => k = g) W W' → Below w.heap.size w W' := fun W W' hb t => hb.trans (t.below hb.size (fun k hk => by omega))
    replace tb := Lib.hid tb
    have hgT : g ≠ T := by omega
    go_loopw [11] (fun i wr => ∃ j : Nat, j ≤ n ∧ i = .int .i64 (j : Int) ∧ Hid (StAt wr g 0 (seenL (l.take j))) ∧ (∃ q1 m1 c1, Hid (Box wr T [.int .i64 0, .slice q1 m1 c1]) ∧ Hid (TR wr (T + 1) q1 m1 c1 (seenL (l.take j)))) ∧ Below w.heap.size w wr) (fun i wr => n - (intOf i).toNat)
    case atStart => exact ⟨0, Nat.zero_le _, rfl, hS3, ⟨none, 0, 0, X3, Lib.hid (TR.none _ _)⟩, B3⟩
    case round =>
      obtain ⟨j, hj, rfl, hS, ⟨q1, m1, c1, hX, hTR⟩, hB⟩ := hrel
      have zr := hB.size
      by_cases hlt : j < n
      · obtain ⟨b, off, rfl, hbl, hc⟩ := RowG.rec_ hR.out (by omega)
        have E : ∀ W, Below w.heap.size w W → RecAt W b (off + j * 8) (l.getD j (Rec.zero 0)) := fun W hb => (hc j hlt).below hb hbl
        replace E := Lib.hid E
        have hk1 := hok.out (l.getD j (Rec.zero 0)) (by simp [List.getD, show j < l.length from by omega])
        have s1 := take_seen2 (l := l) (j := j) (by omega)
        have hm1 : (seenL (l.take j)).length ≤ 100 := by
          have := seenL_le (l.take j)
          have : (l.take j).length ≤ j := by rw [List.length_take]; omega
          omega
        clear hc
        have hm2 : m1 ≤ 1000 := by have := hTR.out.len; omega
        generalize l.getD j (Rec.zero 0) = r1 at *
        generalize hq1 : seenL (l.take (j + 1)) = n1 at *
        generalize seenL (l.take j) = o1 at *
        have HS1 := Lib.hid (fun W (h : StAt W g 0 o1) (hK : KeptS W) => see_any g 0 o1 r1 W h hk1 hK.forms (by omega))
        have HR1 := Lib.hid (fun W (h : TR W (T + 1) q1 m1 c1 o1) (hlo : T + 1 ≤ W.heap.size) => rseeT_any 0 q1 m1 c1 (T + 1) o1 r1 W h hlo hm2 hk1)
        have HPl := Lib.hid (fun W => splain_any r1 W)
        rw [← s1] at HS1 HR1
        replace hq1 := Lib.hid hq1
        replace s1 := Lib.hid s1
        have hlt' : (j : Int) < (n : Int) := by omega
        unfold recA at HS1 HR1 HPl
        obtain ⟨a0, a1, a2, a3, a4, a5, a6, a7⟩ := E.out _ hB
        go_wp2_with fail
        refine (HS1.out _ hS.out (hK0.out.below hB)).mono ?_; rintro e w4 ⟨rfl, hS4, t4⟩
        have B4 := tb.out _ _ hB t4
        have hX4 := Lib.hid (hX.out.turn t4 (fun e => hgT e.symm))
        have hT4 := Lib.hid (hTR.out.turn t4 (fun k hk e => by omega))
        replace hS4 := Lib.hid hS4
        have zT4 : T + 1 ≤ w4.heap.size := hX4.out.lt
        clear t4 a0 a1 a2 a3 a4 a5 a6 a7 hS hTR hX
        go_wp2_with fail
        have E1 : ∀ W, Below w4.heap.size w4 W → RecAt W b (off + j * 8) r1 := fun W hb => E.out _ (B4.trans (hb.mono B4.size))
        replace E1 := Lib.hid E1
        have D0 : Below w4.heap.size w4 w4.drew := (Below.refl _ _).drew
        refine wp_region_noPanic ?_
        refine wp_region_held_drew (S := fun W => RecAt W b (off + j * 8) r1) (by kernel_rfl) (E1.out _ D0) (fun hHeld => ?_)
        refine wpAnyH_take (i := 1) (oi := ⟨some 35, _, _, _, _, _⟩) (v := ?_) rfl (by kernel_rfl) (by kernel_rfl) (by kernel_rfl) (fun _ _ _ h => h) (Or.inl ⟨by rfl, ?hyt1⟩) (by assumption) ?_; (case hyt1 => ((intro W hSW; (try dsimp only at hSW); obtain ⟨s0, s1, s2, s3, s4, s5, s6, s7⟩ := hSW; (try simp only [Nat.zero_add] at s0 s1 s2 s3 s4 s5 s6 s7); go_simp); (all_goals with_reducible rfl))); (try simp only [Act.put, List.setIfInBounds_toArray, List.set_cons_zero, List.set_cons_succ])
        refine wpAnyH_take (i := 2) (oi := ⟨some 36, _, _, _, _, _⟩) (v := ?_) rfl (by kernel_rfl) (by kernel_rfl) (by kernel_rfl) (fun _ _ _ h => h) (Or.inl ⟨by rfl, ?hyt2⟩) (by assumption) ?_; (case hyt2 => ((intro W hSW; (try dsimp only at hSW); obtain ⟨s0, s1, s2, s3, s4, s5, s6, s7⟩ := hSW; (try simp only [Nat.zero_add] at s0 s1 s2 s3 s4 s5 s6 s7); go_simp); (all_goals with_reducible rfl))); (try simp only [Act.put, List.setIfInBounds_toArray, List.set_cons_zero, List.set_cons_succ])
        refine wpAnyH_take (i := 3) (oi := ⟨some 37, _, _, _, _, _⟩) (v := ?_) rfl (by kernel_rfl) (by kernel_rfl) (by kernel_rfl) (fun _ _ _ h => h) (Or.inl ⟨by rfl, ?hyt3⟩) (by assumption) ?_; (case hyt3 => ((intro W hSW; (try dsimp only at hSW); obtain ⟨s0, s1, s2, s3, s4, s5, s6, s7⟩ := hSW; (try simp only [Nat.zero_add] at s0 s1 s2 s3 s4 s5 s6 s7); go_simp); (all_goals with_reducible rfl))); (try simp only [Act.put, List.setIfInBounds_toArray, List.set_cons_zero, List.set_cons_succ])
        refine wpAnyH_take (i := 4) (oi := ⟨some 38, _, _, _, _, _⟩) (v := ?_) rfl (by kernel_rfl) (by kernel_rfl) (by kernel_rfl) (fun _ _ _ h => h) (Or.inl ⟨by rfl, ?hyt4⟩) (by assumption) ?_; (case hyt4 => ((intro W hSW; (try dsimp only at hSW); obtain ⟨s0, s1, s2, s3, s4, s5, s6, s7⟩ := hSW; (try simp only [Nat.zero_add] at s0 s1 s2 s3 s4 s5 s6 s7); go_simp); (all_goals with_reducible rfl))); (try simp only [Act.put, List.setIfInBounds_toArray, List.set_cons_zero, List.set_cons_succ])
        refine wpAnyH_ready (rs := [0, 5]) (by kernel_rfl) (by simp) ?_
        refine AllReadyH.cons (o := ⟨some 34, _, _, _, _, _⟩) rfl (fun K hK => ?oA) (AllReadyH.cons (o := ⟨some 39, _, _, _, _, _⟩) rfl (fun K hK => ?oB) AllReadyH.nil)
        case' oA =>
          have x0 := hX4.out.cell 0 _ rfl
          have x1 := hX4.out.cell 1 _ rfl
          go_simp
          (try go_simp); refine hK.out _ _ (E1.out _ D0) (fun hHx => ?_); clear hK K hHeld; have hHeld := hHx; clear hHx; (try simp only [Act.put, List.setIfInBounds_toArray, List.set_cons_zero, List.set_cons_succ])
          refine wpAnyH_ready (rs := [5]) (by kernel_rfl) (by simp) ?_; refine AllReadyH.cons (o := ⟨some 39, _, _, _, _, _⟩) rfl (fun K hK => ?_) AllReadyH.nil; go_simp
          go_at_call 38
          refine (HPl.out _).mono ?_; rintro e w5 ⟨rfl, hb5⟩
          have D5 := D0.trans (hb5.mono D0.size)
          (try go_simp); refine hK.out _ _ (E1.out _ D5) (fun hHx => ?_); clear hK K hHeld; have hHeld := hHx; clear hHx; (try simp only [Act.put, List.setIfInBounds_toArray, List.set_cons_zero, List.set_cons_succ])
          clear x0 x1 hb5
        case' oB =>
          go_simp
          go_at_call 38
          refine (HPl.out _).mono ?_; rintro e w5 ⟨rfl, hb5⟩
          have D5 := D0.trans (hb5.mono D0.size)
          (try go_simp); refine hK.out _ _ (E1.out _ D5) (fun hHx => ?_); clear hK K hHeld; have hHeld := hHx; clear hHx; (try simp only [Act.put, List.setIfInBounds_toArray, List.set_cons_zero, List.set_cons_succ])
          have x0 := (hX4.out.below D5).cell 0 _ rfl
          have x1 := (hX4.out.below D5).cell 1 _ rfl
          refine wpAnyH_ready (rs := [0]) (by kernel_rfl) (by simp) ?_; refine AllReadyH.cons (o := ⟨some 34, _, _, _, _, _⟩) rfl (fun K hK => ?_) AllReadyH.nil; go_simp
          (try go_simp); refine hK.out _ _ (E1.out _ D5) (fun hHx => ?_); clear hK K hHeld; have hHeld := hHx; clear hHx; (try simp only [Act.put, List.setIfInBounds_toArray, List.set_cons_zero, List.set_cons_succ])
          clear x0 x1 hb5
        all_goals (
          refine wpAnyH_ready (rs := [6]) (by kernel_rfl) (by simp) ?_; refine AllReadyH.cons (o := ⟨some 40, _, _, _, _, _⟩) rfl (fun K hK => ?_) AllReadyH.nil; go_simp
          go_at_call 37
          refine (HR1.out _ (hT4.out.below D5) (Nat.le_trans zT4 D5.size)).mono ?_; rintro e w6 ⟨q2, m2, c2, rfl, hT6, hb6⟩
          have D6 := D5.trans (hb6.mono D5.size)
          have hX6 := hX4.out.below D6
          (try go_simp); refine hK.out _ _ (E1.out _ D6) (fun hHx => ?_); clear hK K hHeld; have hHeld := hHx; clear hHx; (try simp only [Act.put, List.setIfInBounds_toArray, List.set_cons_zero, List.set_cons_succ])
          have f0 := hX6.free 0 (by simp)
          have f1 := hX6.free 1 (by simp)
          have x0 := hX6.cell 0 _ rfl
          have x1 := hX6.cell 1 _ rfl
          have xl := hX6.lt
          refine wpAnyH_ready (rs := [7]) (by kernel_rfl) (by simp) ?_; refine AllReadyH.cons (o := ⟨none, _, _, _, _, _⟩) rfl (fun K hK => ?_) AllReadyH.nil; go_simp
          have zb : b < T := by omega
          have tF : Turn (fun k => k = T) w6 ((w6.setCell ⟨T, 0, none⟩ (.int .i64 0)).setCell ⟨T, 1, none⟩ (.slice q2 m2 c2)) := ((Turn.refl (fun k => k = T) w6).setCell ⟨T, 0, none⟩ (fun _ => rfl) _).setCell ⟨T, 1, none⟩ (fun _ => rfl) _
          have R6 := (E1.out _ D6).turn tF (by have := hX6.lt; omega) (fun e => by omega)
          (try go_simp); refine hK.out _ _ R6 (fun hHx => ?_); clear hK K hHeld; have hHeld := hHx; clear hHx; (try simp only [Act.put, List.setIfInBounds_toArray, List.set_cons_zero, List.set_cons_succ])
          have hXF := Lib.hid ((hX6.set 0 (.int .i64 0) (by simp)).set 1 (.slice q2 m2 c2) (by simp))
          have hTF := Lib.hid (hT6.turn tF (fun k hk e => by omega))
          have hSF := Lib.hid ((hS4.out.below D6).turn tF hgT)
          have B6 := B4.trans (D6.mono B4.size)
          have BF : Below w.heap.size w ((w6.setCell ⟨T, 0, none⟩ (.int .i64 0)).setCell ⟨T, 1, none⟩ (.slice q2 m2 c2)) := (B6.setCell (by simp; omega) _).setCell (by simp; omega) _
          clear f0 f1 x0 x1 tF R6 hT6 hX6 hHeld
          refine wpAnyH_done (by kernel_rfl) ?_ _
          refine NoPanic.normal ?_
          generalize (w6.setCell ⟨T, 0, none⟩ (.int .i64 0)).setCell ⟨T, 1, none⟩ (.slice q2 m2 c2) = wF at *
          go_wp2_with fail
          go_roundw
          case rel => exact ⟨j + 1, by omega, by go_num, by rw [hq1.out]; exact hSF, ⟨q2, m2, c2, hXF, by rw [hq1.out]; exact hTF⟩, BF⟩
          case measure => simp [intOf]; omega)
      · have : j = n := by omega
        subst this
        rw [List.take_of_length_le (by omega)] at hS hTR
        have hLl := seenL_le l
        have hLn : ∀ r ∈ seenL l, -9223372036854775808 ≤ r.num ∧ r.num ≤ 9223372036854775807 := fun r hr => (hok.out r (List.mem_filter.1 hr).1).num
        have hm1 : m1 ≤ 100000 := by have := hTR.out.len; omega
        generalize seenL l = L at *
        have hLL : L.length ≤ 100000 := by omega
        replace hLn := Lib.hid hLn
        have hlt2 : ¬ ((j : Int) < (j : Int)) := by omega
        go_wp2_with fail
        go_loopw [12] (fun i wi => ∃ k : Nat, k ≤ tm ∧ i = .int .i64 (k : Int) ∧ Hid (StAt wi g (k : Int) L) ∧ Hid (Box wi T [.int .i64 (k : Int), .slice q1 m1 c1]) ∧ Hid (TR wi (T + 1) q1 m1 c1 L) ∧ Below w.heap.size w wi) (fun i wi => tm - (intOf i).toNat)
        case atStart => exact ⟨0, Nat.zero_le _, rfl, hS, hX, hTR, hB⟩
        case round =>
          clear hS hX hTR hB zr
          obtain ⟨k, hk, rfl, hS, hX, hTR, hB⟩ := hrel
          have zr := hB.size
          by_cases hlt : k < tm
          · have HD := Lib.hid (decoded_any g (k : Int) L wr hS.out (by omega))
            have hlt' : (k : Int) < (tm : Int) := by omega
            go_wp2_with fail
            refine HD.out.mono ?_; rintro e w5 ⟨rfl, hw5⟩
            have t5 : Turn (fun k => k = g) wr w5 := by rw [hw5]; exact Turn.set wr ⟨g, 0, none⟩ _
            have hS5 : StAt w5 g ((k : Int) + 1) L := by rw [hw5]; exact StRaw.setDec hS.out ((k : Int) + 1)
            have B5 := tb.out _ _ hB t5
            have hX5 := hX.out.turn t5 (fun e => hgT e.symm)
            have hT5 := hTR.out.turn t5 (fun k hk e => by omega)
            clear hw5 t5 HD hS hX hTR
            have x0 := hX5.cell 0 _ rfl
            have f0 := hX5.free 0 (by simp)
            have xl := hX5.lt
            have tF : Turn (fun k => k = T) w5 (w5.setCell ⟨T, 0, none⟩ (.int .i64 ((k : Int) + 1))) := Turn.set w5 ⟨T, 0, none⟩ _
            have hXF := Lib.hid (hX5.set 0 (.int .i64 ((k : Int) + 1)) (by simp))
            have hTF := Lib.hid (hT5.turn tF (fun k hk e => by omega))
            have hSF := Lib.hid (hS5.turn tF hgT)
            have BF : Below w.heap.size w (w5.setCell ⟨T, 0, none⟩ (.int .i64 ((k : Int) + 1))) := B5.setCell (by simp; omega) _
            replace hS5 := Lib.hid hS5
            replace hX5 := Lib.hid hX5
            replace hT5 := Lib.hid hT5
            clear tF
            go_wp2_with fail
            go_roundw
            case rel => exact ⟨k + 1, by omega, by go_num, by simpa using hSF, by simpa using hXF, hTF, BF⟩
            case measure => simp [intOf]; omega
          · have : k = tm := by omega
            subst this
            have hlt3 : ¬ ((k : Int) < (k : Int)) := by omega
            have hPow := Lib.hid (fun W (hb : Below wr.heap.size wr W) => (hK0.out.below (hB.trans (hb.mono zr))).pow)
            have HS := Lib.hid (fun W (h : StAt W g (k : Int) L) (hpw : PowT W) => sshow_any g (k : Int) qn L W h hLL hpw (by omega) hp)
            have HR := Lib.hid (fun W (h : RowG 8 W q1 m1 (L.map recVs)) => rsshow_any (k : Int) qn q1 m1 c1 L W h hm1 hLn.out (by omega) hp)
            generalize textP (rowsP (k : Int) qn L) = tx at *
            go_wp2_with fail
            have E : ∀ W, Below wr.heap.size wr W → W.cell? ⟨T, 0, none⟩ = some (.int .i64 (k : Int)) ∧ W.cell? ⟨T, 1, none⟩ = some (.slice q1 m1 c1) := fun W hb => ⟨(hX.out.below hb).cell 0 _ rfl, (hX.out.below hb).cell 1 _ rfl⟩
            replace E := Lib.hid E
            have D0 : Below wr.heap.size wr wr.drew := (Below.refl _ _).drew
            refine wp_region_held_drew (S := fun W => W.cell? ⟨T, 0, none⟩ = some (.int .i64 (k : Int)) ∧ W.cell? ⟨T, 1, none⟩ = some (.slice q1 m1 c1)) (by kernel_rfl) (E.out _ D0) (fun hHeld => ?_)
            refine wpAnyH_take (i := 0) (oi := ⟨some 53, _, _, _, _, _⟩) (v := ?_) rfl (by kernel_rfl) (by kernel_rfl) (by kernel_rfl) (fun _ _ _ h => h) (Or.inl ⟨by rfl, ?hyt0⟩) (by assumption) ?_; (case hyt0 => ((intro W hSW; (try dsimp only at hSW); obtain ⟨hSW, hSW2⟩ := hSW; go_simp); (all_goals with_reducible rfl))); (try simp only [Act.put, List.setIfInBounds_toArray, List.set_cons_zero, List.set_cons_succ])
            refine wpAnyH_take (i := 1) (oi := ⟨some 54, _, _, _, _, _⟩) (v := ?_) rfl (by kernel_rfl) (by kernel_rfl) (by kernel_rfl) (fun _ _ _ h => h) (Or.inl ⟨by rfl, ?hyt1⟩) (by assumption) ?_; (case hyt1 => ((intro W hSW; (try dsimp only at hSW); obtain ⟨hSW, hSW2⟩ := hSW; go_simp); (all_goals with_reducible rfl))); (try simp only [Act.put, List.setIfInBounds_toArray, List.set_cons_zero, List.set_cons_succ])
            refine wpAnyH_take (i := 3) (oi := ⟨some 56, _, _, _, _, _⟩) (v := ?_) rfl (by kernel_rfl) (by kernel_rfl) (by kernel_rfl) (fun _ _ _ h => h) (Or.inl ⟨by rfl, ?hyt3⟩) (by assumption) ?_; (case hyt3 => ((intro W hSW; (try dsimp only at hSW); obtain ⟨hSW, hSW2⟩ := hSW; go_simp); (all_goals with_reducible rfl))); (try simp only [Act.put, List.setIfInBounds_toArray, List.set_cons_zero, List.set_cons_succ])
            refine wpAnyH_take (i := 4) (oi := ⟨some 57, _, _, _, _, _⟩) (v := ?_) rfl (by kernel_rfl) (by kernel_rfl) (by kernel_rfl) (fun _ _ _ h => h) (Or.inl ⟨by rfl, ?hyt4⟩) (by assumption) ?_; (case hyt4 => ((intro W hSW; (try dsimp only at hSW); obtain ⟨hSW, hSW2⟩ := hSW; go_simp); (all_goals with_reducible rfl))); (try simp only [Act.put, List.setIfInBounds_toArray, List.set_cons_zero, List.set_cons_succ])
            refine wpAnyH_ready (rs := [2]) (by kernel_rfl) (by simp) ?_; refine AllReadyH.cons (o := ⟨some 55, _, _, _, _, _⟩) rfl (fun K hK => ?_) AllReadyH.nil; go_simp
            go_at_call 49
            refine (HS.out _ (hS.out.below D0) (hPow.out _ D0)).mono ?_; rintro e w5 ⟨rfl, hb5⟩
            have D5 := D0.trans (hb5.mono D0.size)
            (try go_simp); refine hK.out _ _ (E.out _ D5) (fun hHx => ?_); clear hK K hHeld; have hHeld := hHx; clear hHx; (try simp only [Act.put, List.setIfInBounds_toArray, List.set_cons_zero, List.set_cons_succ])
            refine wpAnyH_ready (rs := [5]) (by kernel_rfl) (by simp) ?_; refine AllReadyH.cons (o := ⟨some 58, _, _, _, _, _⟩) rfl (fun K hK => ?_) AllReadyH.nil; go_simp
            go_at_call 50
            refine (HR.out _ ((hTR.out.below D5).row)).mono ?_; rintro e w6 ⟨rfl, hb6⟩
            have D6 := D5.trans (hb6.mono D5.size)
            (try go_simp); refine hK.out _ _ (E.out _ D6) (fun hHx => ?_); clear hK K hHeld; have hHeld := hHx; clear hHx; (try simp only [Act.put, List.setIfInBounds_toArray, List.set_cons_zero, List.set_cons_succ])
            refine wpAnyH_take (i := 6) (oi := ⟨some 59, _, _, _, _, _⟩) (v := ?_) rfl (by kernel_rfl) (by kernel_rfl) (by kernel_rfl) (fun _ _ _ h => h) (Or.inl ⟨by rfl, ?hyt6⟩) (by assumption) ?_; (case hyt6 => ((intro W hSW; (try dsimp only at hSW); obtain ⟨hSW, hSW2⟩ := hSW; go_simp); (all_goals with_reducible rfl))); (try simp only [Act.put, List.setIfInBounds_toArray, List.set_cons_zero, List.set_cons_succ])
            refine wpAnyH_take (i := 7) (oi := ⟨some 6, _, _, _, _, _⟩) (v := ?_) rfl (by kernel_rfl) (by kernel_rfl) (by kernel_rfl) (fun _ _ _ h => h) (Or.inl ⟨by rfl, ?hyt7⟩) (by assumption) ?_; (case hyt7 => ((intro W hSW; (try dsimp only at hSW); obtain ⟨hSW, hSW2⟩ := hSW; go_simp); (all_goals with_reducible rfl))); (try simp only [Act.put, List.setIfInBounds_toArray, List.set_cons_zero, List.set_cons_succ])
            refine wpAnyH_done (by kernel_rfl) ?_ _
            go_wp2_with fail
            go_ret
            exact ⟨by first | rfl | (simp; done), hB.trans (D6.mono zr)⟩
end Go.Proofs.YtdmpopdacbdnlaaDoor
