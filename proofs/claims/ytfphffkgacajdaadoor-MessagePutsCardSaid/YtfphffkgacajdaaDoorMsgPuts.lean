/- The walk of MessagePuts. -/
import Derived.Test.YtfphffkgacajdaaDoorMsgAG
import Derived.Test.YtfphffkgacajdaaDoorMsgOpen
import Derived.Test.YtfphffkgacajdaaDoorFrPG
import Derived.Test.YtfphffkgacajdaaDoorChecked
import Derived.Test.YtfphffkgacajdaaDoorRows
namespace Go.Proofs.YtfphffkgacajdaaDoor
open Go.RowKit
set_option linter.unusedVariables false
set_option linter.unusedSimpArgs false
set_option maxHeartbeats 1600000
set_option maxRecDepth 20000
theorem wpAnyH_switchM {P : Program} {ops : Array Oper} {Q : Exit → Act → World → Prop} {md : Region.Mode} {S S' : World → Prop} (hS : ∀ w, S' w → S w) : ∀ (fuel : Nat) (listed : Array Bool) (a : Act) (w : World), wpAnyH P md ops Q S' fuel listed a w → wpAnyH P md ops Q S fuel listed a w
  | 0, _, _, _, h => h
  | fuel + 1, _, _, _, h => ⟨h.1, fun i hi => wpOp_mono (fun a' w' h' => ⟨hS _ h'.1, wpAnyH_switchM hS fuel _ a' w' h'.2⟩) (h.2 i hi)⟩
theorem messagePuts_walk (m : Msg) (q : Option Addr) (n c : Nat) (w : World) (hQ : RowQ w q n m.props) (hokW : m.okW) (hT : Tab w) :
    Calls Tryd.prog 3 #[msgV m q n c] w fun e w' => e = .returned (.bool true) ∧ Below w.heap.size w w' := by
  have HW := Lib.hid (fun W h => few_any m q n c W h hokW.names)
  by_cases hfw : fewB m.props = false
  · rw [hfw] at HW
    clear hfw
    unfold msgV at HW ⊢
    obtain ⟨W1, eW1⟩ : ∃ W, w.alloc (.cells #[.int .u8 (m.kind.toNat : Int), .int .u64 (m.seq : Int), .int .i64 m.at_, .slice q n c] 25) = W := ⟨_, rfl⟩
    have B1 : Below w.heap.size w W1 := by rw [← eW1]; exact (Below.refl _ _).alloc (Nat.le_refl _) _
    have X1 : Hid (Box W1 w.heap.size [.int .u8 (m.kind.toNat : Int), .int .u64 (m.seq : Int), .int .i64 m.at_, .slice q n c]) := Lib.hid (by rw [← eW1]; exact Box.new w _ _ _ rfl _ rfl)
    go_enter Tryd.func3, Tryd.ntmps3
    go_wp2_with fail
    refine (mawake_any _ (hT.below B1)).mono ?_; rintro e w2 ⟨rfl, hb2⟩
    have B2 := B1.trans (hb2.mono B1.size)
    have m0 := (X1.out.below hb2).cell 0 _ rfl
    have m1 := (X1.out.below hb2).cell 1 _ rfl
    have m2 := (X1.out.below hb2).cell 2 _ rfl
    have m3 := (X1.out.below hb2).cell 3 _ rfl
    go_wp2_with fail
    refine (HW.out _ (RowG.below hQ B2)).mono ?_; rintro e w3 ⟨rfl, hb3⟩
    go_wp2_with fail
    go_ret
    exact ⟨rfl, B2.trans (hb3.mono B2.size)⟩
  have hfw : fewB m.props = true := by simpa using hfw
  have hok := hokW.ok hfw
  rw [hfw] at HW
  clear hfw hokW
  have HPL := Lib.hid (fun W => mplain_any m q n c W)
  have HRM := Lib.hid (fun W h => rmmay_any m q n c W hok h)
  have HPM := Lib.hid (fun W h => mmay_any m q n c W hok h)
  have HPP := Lib.hid (fun W h => mput_any m q n c W hok h)
  have HPF := Lib.hid (fun W h hT => mframe_any m q n c W hok h hT)
  have HRF := Lib.hid (fun W h => rmframe_any m q n c W hok h)
  have HRP : mayM m = true → ∀ W, RowQ W q n m.props → Calls Tryd.prog 22 #[msgV m q n c] W fun e w' => e = .returned (.string ⟨(putM m).toArray⟩) ∧ Below W.heap.size W w' := fun hm W h => rmput_any m q n c W hok hm h
  have hputC : putC m = if mayM m = true then putM m else [] := rfl
  have herrC : errC m = if mayM m = true then 0 else 1 := rfl
  unfold msgV at *
  generalize frameC m = fb at *
  generalize putC m = pc at *
  generalize errC m = ec at *
  generalize putM m = pm at *
  generalize mayM m = bm at *
  clear hok
  replace HRP := Lib.hid HRP
  replace hputC := Lib.hid hputC
  replace herrC := Lib.hid herrC
  replace hQ := Lib.hid hQ
  replace hT := Lib.hid hT
  generalize m.props = ps at *
  generalize m.seq = s0 at *
  generalize m.at_ = a0 at *
  obtain ⟨kz, hkz⟩ : ∃ kz : Int, (m.kind.toNat : Int) = kz := ⟨_, rfl⟩
  rw [hkz] at HW HPL HRM HPM HPP HPF HRF HRP ⊢
  clear hkz
  obtain ⟨W1, eW1⟩ : ∃ W, w.alloc (.cells #[.int .u8 kz, .int .u64 (s0 : Int), .int .i64 a0, .slice q n c] 25) = W := ⟨_, rfl⟩
  have B1 : Below w.heap.size w W1 := by rw [← eW1]; exact (Below.refl _ _).alloc (Nat.le_refl _) _
  have XA : Hid (Box W1 w.heap.size [.int .u8 kz, .int .u64 (s0 : Int), .int .i64 a0, .slice q n c]) := Lib.hid (by rw [← eW1]; exact Box.new w _ _ _ rfl _ rfl)
  go_enter Tryd.func3, Tryd.ntmps3
  go_wp2_with fail
  refine (mawake_any _ (hT.out.below B1)).mono ?_; rintro e w2 ⟨rfl, hb2⟩
  have B2 := B1.trans (hb2.mono B1.size)
  replace XA := Lib.hid (XA.out.below hb2)
  clear eW1 hb2 B1
  have m0 := XA.out.cell 0 _ rfl
  have m1 := XA.out.cell 1 _ rfl
  have m2 := XA.out.cell 2 _ rfl
  have m3 := XA.out.cell 3 _ rfl
  go_wp2_with fail
  refine (HW.out _ (RowG.below hQ.out B2)).mono ?_; rintro e w3 ⟨rfl, hb3⟩
  have B3 := B2.trans (hb3.mono B2.size)
  replace XA := Lib.hid (XA.out.below hb3)
  clear m0 m1 m2 m3 hb3 B2
  have m0 := XA.out.cell 0 _ rfl
  have m1 := XA.out.cell 1 _ rfl
  have m2 := XA.out.cell 2 _ rfl
  have m3 := XA.out.cell 3 _ rfl
  go_wp2_with fail
  refine (HPL.out _).mono ?_; rintro e w4 ⟨rfl, hb4⟩
  have b5 : Below w3.heap.size w3 (w4.alloc (.cells #[.int .u8 kz, .int .u64 (s0 : Int), .int .i64 a0, .slice q n c] 28)) := hb4.alloc hb4.size _
  have XB : Hid (Box (w4.alloc (.cells #[.int .u8 kz, .int .u64 (s0 : Int), .int .i64 a0, .slice q n c] 28)) w4.heap.size [.int .u8 kz, .int .u64 (s0 : Int), .int .i64 a0, .slice q n c]) := Lib.hid (Box.new _ _ _ _ rfl _ rfl)
  replace XA := Lib.hid (XA.out.below b5)
  have B5 := B3.trans (b5.mono B3.size)
  clear m0 m1 m2 m3 hb4 b5 B3
  go_wp2_with fail
  generalize w4.alloc (.cells #[.int .u8 kz, .int .u64 (s0 : Int), .int .i64 a0, .slice q n c] 28) = w5 at *
  refine (HRM.out _ (RowG.below hQ.out B5)).mono ?_; rintro e w6 ⟨rfl, hb6⟩
  have B6 := B5.trans (hb6.mono B5.size)
  replace XA := Lib.hid (XA.out.below hb6)
  replace XB := Lib.hid (XB.out.below hb6)
  clear hb6 B5
  have m0 := XA.out.cell 0 _ rfl
  have m1 := XA.out.cell 1 _ rfl
  have m2 := XA.out.cell 2 _ rfl
  have m3 := XA.out.cell 3 _ rfl
  go_wp2_with fail
  refine (HPP.out _ (RowG.below hQ.out B6)).mono ?_; rintro e w7 ⟨v7, rfl, hO7, hb7⟩
  have B7 := B6.trans (hb7.mono B6.size)
  replace XA := Lib.hid (XA.out.below hb7)
  replace XB := Lib.hid (XB.out.below hb7)
  clear m0 m1 m2 m3 hb7 B6
  obtain ⟨q7, c7, rfl, hR7, _⟩ := hO7.row
  replace hR7 := Lib.hid hR7
  clear hO7
  go_wp2_with fail
  have E : ∀ W, Below w7.heap.size w7 W → W.cell? ⟨w.heap.size, 0, none⟩ = some (.int .u8 kz) ∧ W.cell? ⟨w.heap.size, 1, none⟩ = some (.int .u64 (s0 : Int)) ∧ W.cell? ⟨w.heap.size, 2, none⟩ = some (.int .i64 a0) ∧ W.cell? ⟨w.heap.size, 3, none⟩ = some (.slice q n c) ∧ W.cell? ⟨w4.heap.size, 0, none⟩ = some (.int .u8 kz) ∧ W.cell? ⟨w4.heap.size, 1, none⟩ = some (.int .u64 (s0 : Int)) ∧ W.cell? ⟨w4.heap.size, 2, none⟩ = some (.int .i64 a0) ∧ W.cell? ⟨w4.heap.size, 3, none⟩ = some (.slice q n c) := fun W hW =>
    ⟨(XA.out.below hW).cell 0 _ rfl, (XA.out.below hW).cell 1 _ rfl, (XA.out.below hW).cell 2 _ rfl, (XA.out.below hW).cell 3 _ rfl, (XB.out.below hW).cell 0 _ rfl, (XB.out.below hW).cell 1 _ rfl, (XB.out.below hW).cell 2 _ rfl, (XB.out.below hW).cell 3 _ rfl⟩
  replace E := Lib.hid E
  have D := (Below.refl w7.heap.size w7).drew
  refine wp_region_held_drew (S := fun W => W.cell? ⟨w.heap.size, 0, none⟩ = some (.int .u8 kz) ∧ W.cell? ⟨w.heap.size, 1, none⟩ = some (.int .u64 (s0 : Int)) ∧ W.cell? ⟨w.heap.size, 2, none⟩ = some (.int .i64 a0) ∧ W.cell? ⟨w.heap.size, 3, none⟩ = some (.slice q n c) ∧ W.cell? ⟨w4.heap.size, 0, none⟩ = some (.int .u8 kz) ∧ W.cell? ⟨w4.heap.size, 1, none⟩ = some (.int .u64 (s0 : Int)) ∧ W.cell? ⟨w4.heap.size, 2, none⟩ = some (.int .i64 a0) ∧ W.cell? ⟨w4.heap.size, 3, none⟩ = some (.slice q n c)) (by kernel_rfl) (E.out _ D) (fun hHeld => ?_)
  refine wpAnyH_take (i := 0) (oi := ⟨some 25, _, _, _, _, _⟩) (v := ?_) rfl (by kernel_rfl) (by kernel_rfl) (by kernel_rfl) (fun _ _ _ h => h) (Or.inl ⟨by rfl, ?hyt0⟩) (by assumption) ?_; (case hyt0 => ((intro W hSW; (try dsimp only at hSW); obtain ⟨s1, s2, s3, s4, s5, s6, s7, s8⟩ := hSW; go_simp); (all_goals with_reducible rfl))); (try simp only [Act.put, List.setIfInBounds_toArray, List.set_cons_zero, List.set_cons_succ])
  refine wpAnyH_take (i := 2) (oi := ⟨some 27, _, _, _, _, _⟩) (v := ?_) rfl (by kernel_rfl) (by kernel_rfl) (by kernel_rfl) (fun _ _ _ h => h) (Or.inl ⟨by rfl, ?hyt2⟩) (by assumption) ?_; (case hyt2 => ((intro W hSW; (try dsimp only at hSW); obtain ⟨s1, s2, s3, s4, s5, s6, s7, s8⟩ := hSW; go_simp); (all_goals with_reducible rfl))); (try simp only [Act.put, List.setIfInBounds_toArray, List.set_cons_zero, List.set_cons_succ])
  refine wpAnyH_ready (rs := [1]) (by kernel_rfl) (by simp) ?_; refine AllReadyH.cons (o := ⟨some 26, _, _, _, _, _⟩) rfl (fun K hK => ?_) AllReadyH.nil; go_simp
  go_at_call 19
  refine (HPM.out _ (RowG.below hQ.out (B7.trans (D.mono B7.size)))).mono ?_; rintro e w8 ⟨rfl, hb8⟩
  have D8 : Below w7.heap.size w7 w8 := D.trans (hb8.mono D.size)
  (try go_simp); refine hK.out _ _ (E.out _ D8) (fun hHeld2 => ?_); clear hK K hHeld; (try simp only [Act.put, List.setIfInBounds_toArray, List.set_cons_zero, List.set_cons_succ])
  refine wpAnyH_take (i := 3) (oi := ⟨some 28, _, _, _, _, _⟩) (v := ?_) rfl (by kernel_rfl) (by kernel_rfl) (by kernel_rfl) (fun _ _ _ h => h) (Or.inl ⟨by rfl, ?hyt3⟩) (by assumption) ?_; (case hyt3 => ((intro W hSW; (try dsimp only at hSW); obtain ⟨s1, s2, s3, s4, s5, s6, s7, s8⟩ := hSW; go_simp); (all_goals with_reducible rfl))); (try simp only [Act.put, List.setIfInBounds_toArray, List.set_cons_zero, List.set_cons_succ])
  refine wpAnyH_take (i := 4) (oi := ⟨some 29, _, _, _, _, _⟩) (v := ?_) rfl (by kernel_rfl) (by kernel_rfl) (by kernel_rfl) (fun _ _ _ h => h) (Or.inl ⟨by rfl, ?hyt4⟩) (by assumption) ?_; (case hyt4 => ((intro W hSW; (try dsimp only at hSW); obtain ⟨s1, s2, s3, s4, s5, s6, s7, s8⟩ := hSW; go_simp); (all_goals with_reducible rfl))); (try simp only [Act.put, List.setIfInBounds_toArray, List.set_cons_zero, List.set_cons_succ])
  refine wpAnyH_take (i := 5) (oi := ⟨some 30, _, _, _, _, _⟩) (v := ?_) rfl (by kernel_rfl) (by kernel_rfl) (by kernel_rfl) (fun _ _ _ h => h) (Or.inl ⟨by rfl, ?hyt5⟩) (by assumption) ?_; (case hyt5 => ((intro W hSW; (try dsimp only at hSW); obtain ⟨s1, s2, s3, s4, s5, s6, s7, s8⟩ := hSW; go_simp); (all_goals with_reducible rfl))); (try simp only [Act.put, List.setIfInBounds_toArray, List.set_cons_zero, List.set_cons_succ])
  refine wpAnyH_take (i := 8) (oi := ⟨some 33, _, _, _, _, _⟩) (v := ?_) rfl (by kernel_rfl) (by kernel_rfl) (by kernel_rfl) (fun _ _ _ h => h) (Or.inl ⟨by rfl, ?hyt8⟩) (by assumption) ?_; (case hyt8 => ((intro W hSW; (try dsimp only at hSW); obtain ⟨s1, s2, s3, s4, s5, s6, s7, s8⟩ := hSW; go_simp); (all_goals with_reducible rfl))); (try simp only [Act.put, List.setIfInBounds_toArray, List.set_cons_zero, List.set_cons_succ])
  refine wpAnyH_ready (rs := [6]) (by kernel_rfl) (by simp) ?_; refine AllReadyH.cons (o := ⟨some 31, _, _, _, _, _⟩) rfl (fun K hK => ?_) AllReadyH.nil; go_simp
  go_at_call 20
  refine (HPF.out _ (RowG.below hQ.out (B7.trans (D8.mono B7.size))) (hT.out.below (B7.trans (D8.mono B7.size)))).mono ?_; rintro e w9 ⟨v9, rfl, hO9, hb9⟩
  have D9 : Below w7.heap.size w7 w9 := D8.trans (hb9.mono D8.size)
  obtain ⟨q9, c9, rfl, hR9, _⟩ := hO9.row
  have CV : ∀ W, Below w9.heap.size w9 W → (convert 31 9 (.slice q9 fb.length c9)).run Tryd.prog W = .ok (.string ⟨fb.toArray⟩) W := fun W hW => (hR9.below hW).conv 31 9 5 Tryd.underlying31 Tryd.underlying5 Tryd.underlying9
  replace CV := Lib.hid CV
  clear hO9 hR9
  (try go_simp); refine hK.out _ _ (E.out _ D9) (fun hHeld3 => ?_); clear hK K hHeld2; (try simp only [Act.put, List.setIfInBounds_toArray, List.set_cons_zero, List.set_cons_succ])
  refine wpAnyH_switchM (S' := fun W => (convert 31 9 (.slice q9 fb.length c9)).run Tryd.prog W = .ok (.string ⟨fb.toArray⟩) W ∧ W.cell? ⟨w.heap.size, 0, none⟩ = some (.int .u8 kz) ∧ W.cell? ⟨w.heap.size, 1, none⟩ = some (.int .u64 (s0 : Int)) ∧ W.cell? ⟨w.heap.size, 2, none⟩ = some (.int .i64 a0) ∧ W.cell? ⟨w.heap.size, 3, none⟩ = some (.slice q n c) ∧ W.cell? ⟨w4.heap.size, 0, none⟩ = some (.int .u8 kz) ∧ W.cell? ⟨w4.heap.size, 1, none⟩ = some (.int .u64 (s0 : Int)) ∧ W.cell? ⟨w4.heap.size, 2, none⟩ = some (.int .i64 a0) ∧ W.cell? ⟨w4.heap.size, 3, none⟩ = some (.slice q n c)) (fun _ h => h.2) _ _ _ _ ?_
  have hHeld4 : (fun W => (convert 31 9 (.slice q9 fb.length c9)).run Tryd.prog W = .ok (.string ⟨fb.toArray⟩) W ∧ W.cell? ⟨w.heap.size, 0, none⟩ = some (.int .u8 kz) ∧ W.cell? ⟨w.heap.size, 1, none⟩ = some (.int .u64 (s0 : Int)) ∧ W.cell? ⟨w.heap.size, 2, none⟩ = some (.int .i64 a0) ∧ W.cell? ⟨w.heap.size, 3, none⟩ = some (.slice q n c) ∧ W.cell? ⟨w4.heap.size, 0, none⟩ = some (.int .u8 kz) ∧ W.cell? ⟨w4.heap.size, 1, none⟩ = some (.int .u64 (s0 : Int)) ∧ W.cell? ⟨w4.heap.size, 2, none⟩ = some (.int .i64 a0) ∧ W.cell? ⟨w4.heap.size, 3, none⟩ = some (.slice q n c)) w9 := ⟨CV.out _ (Below.refl _ _), E.out _ D9⟩
  clear hHeld3
  refine wpAnyH_take (i := 7) (oi := ⟨some 32, _, _, _, _, _⟩) (v := ?_) rfl (by kernel_rfl) (by kernel_rfl) (by kernel_rfl) (fun _ _ _ h => h) (Or.inl ⟨by rfl, ?hyt7⟩) (by assumption) ?_; (case hyt7 => ((intro W hSW; (try dsimp only at hSW); obtain ⟨s1, s2, s3, s4, s5, s6, s7, s8, s9⟩ := hSW; go_simp); (all_goals with_reducible rfl))); (try simp only [Act.put, List.setIfInBounds_toArray, List.set_cons_zero, List.set_cons_succ])
  refine wpAnyH_ready (rs := [9]) (by kernel_rfl) (by simp) ?_; refine AllReadyH.cons (o := ⟨some 34, _, _, _, _, _⟩) rfl (fun K hK => ?_) AllReadyH.nil; go_simp
  go_at_call 21
  refine (HRF.out _ (RowG.below hQ.out (B7.trans (D9.mono B7.size)))).mono ?_; rintro e w10 ⟨rfl, hb10⟩
  have D10 : Below w7.heap.size w7 w10 := D9.trans (hb10.mono D9.size)
  (try go_simp); refine hK.out _ _ ⟨CV.out _ hb10, E.out _ D10⟩ (fun hHeld5 => ?_); clear hK K hHeld4; (try simp only [Act.put, List.setIfInBounds_toArray, List.set_cons_zero, List.set_cons_succ])
  refine wpAnyH_take (i := 10) (oi := ⟨some 35, _, _, _, _, _⟩) (v := ?_) rfl (by kernel_rfl) (by kernel_rfl) (by kernel_rfl) (fun _ _ _ h => h) (Or.inl ⟨by rfl, ?hyt10⟩) (by assumption) ?_; (case hyt10 => ((intro W hSW; (try dsimp only at hSW); obtain ⟨s1, s2, s3, s4, s5, s6, s7, s8, s9⟩ := hSW; go_simp); (all_goals with_reducible rfl))); (try simp only [Act.put, List.setIfInBounds_toArray, List.set_cons_zero, List.set_cons_succ])
  refine wpAnyH_take (i := 11) (oi := ⟨some 36, _, _, _, _, _⟩) (v := ?_) rfl (by kernel_rfl) (by kernel_rfl) (by kernel_rfl) (fun _ _ _ h => h) (Or.inl ⟨by rfl, ?hyt11⟩) (by assumption) ?_; (case hyt11 => ((intro W hSW; (try dsimp only at hSW); obtain ⟨s1, s2, s3, s4, s5, s6, s7, s8, s9⟩ := hSW; go_simp); (all_goals with_reducible rfl))); (try simp only [Act.put, List.setIfInBounds_toArray, List.set_cons_zero, List.set_cons_succ])
  refine wpAnyH_done (by kernel_rfl) ?_ _
  clear hHeld5
  cases bm with
  | false =>
    have hp := hputC.out
    have he := herrC.out
    rw [if_neg (by simp)] at hp he
    subst hp he
    go_wp2_with fail
    go_ret
    exact ⟨rfl, B7.trans (D10.mono B7.size)⟩
  | true =>
    have hp := hputC.out
    have he := herrC.out
    rw [if_pos rfl] at hp he
    subst he hp
    have HRP2 := Lib.hid (HRP.out rfl)
    have hR10 := hR7.out.below D10
    obtain ⟨ln, hln⟩ : ∃ ln, pc.length = ln := ⟨_, rfl⟩
    rw [hln] at hR10 ⊢
    have CV2 : ∀ W, Below w10.heap.size w10 W → (convert 31 9 (.slice q7 ln c7)).run Tryd.prog W = .ok (.string ⟨pc.toArray⟩) W := fun W hW => (hR10.below hW).conv 31 9 5 Tryd.underlying31 Tryd.underlying5 Tryd.underlying9
    replace CV2 := Lib.hid CV2
    replace hR10 := Lib.hid hR10
    clear hR7 hln hputC herrC HRP CV
    go_wp2_with fail
    have X10 := Lib.hid (XB.out.below D10)
    have D' := (Below.refl w10.heap.size w10).drew
    have E2 : ∀ W, Below w10.heap.size w10 W → (convert 31 9 (.slice q7 ln c7)).run Tryd.prog W = .ok (.string ⟨pc.toArray⟩) W ∧ W.cell? ⟨w4.heap.size, 0, none⟩ = some (.int .u8 kz) ∧ W.cell? ⟨w4.heap.size, 1, none⟩ = some (.int .u64 (s0 : Int)) ∧ W.cell? ⟨w4.heap.size, 2, none⟩ = some (.int .i64 a0) ∧ W.cell? ⟨w4.heap.size, 3, none⟩ = some (.slice q n c) := fun W hW => ⟨CV2.out _ hW, (X10.out.below hW).cell 0 _ rfl, (X10.out.below hW).cell 1 _ rfl, (X10.out.below hW).cell 2 _ rfl, (X10.out.below hW).cell 3 _ rfl⟩
    replace E2 := Lib.hid E2
    have B10 := B7.trans (D10.mono B7.size)
    refine wp_region_held_drew (S := fun W => (convert 31 9 (.slice q7 ln c7)).run Tryd.prog W = .ok (.string ⟨pc.toArray⟩) W ∧ W.cell? ⟨w4.heap.size, 0, none⟩ = some (.int .u8 kz) ∧ W.cell? ⟨w4.heap.size, 1, none⟩ = some (.int .u64 (s0 : Int)) ∧ W.cell? ⟨w4.heap.size, 2, none⟩ = some (.int .i64 a0) ∧ W.cell? ⟨w4.heap.size, 3, none⟩ = some (.slice q n c)) (by kernel_rfl) (E2.out _ D') (fun hHeld => ?_)
    refine wpAnyH_take (i := 0) (oi := ⟨some 46, _, _, _, _, _⟩) (v := ?_) rfl (by kernel_rfl) (by kernel_rfl) (by kernel_rfl) (fun _ _ _ h => h) (Or.inl ⟨by rfl, ?hyt0⟩) (by assumption) ?_; (case hyt0 => ((intro W hSW; (try dsimp only at hSW); obtain ⟨s1, s2, s3, s4, s5⟩ := hSW; go_simp); (all_goals with_reducible rfl))); (try simp only [Act.put, List.setIfInBounds_toArray, List.set_cons_zero, List.set_cons_succ])
    refine wpAnyH_take (i := 1) (oi := ⟨some 47, _, _, _, _, _⟩) (v := ?_) rfl (by kernel_rfl) (by kernel_rfl) (by kernel_rfl) (fun _ _ _ h => h) (Or.inl ⟨by rfl, ?hyt1⟩) (by assumption) ?_; (case hyt1 => ((intro W hSW; (try dsimp only at hSW); obtain ⟨s1, s2, s3, s4, s5⟩ := hSW; go_simp); (all_goals with_reducible rfl))); (try simp only [Act.put, List.setIfInBounds_toArray, List.set_cons_zero, List.set_cons_succ])
    refine wpAnyH_take (i := 2) (oi := ⟨some 48, _, _, _, _, _⟩) (v := ?_) rfl (by kernel_rfl) (by kernel_rfl) (by kernel_rfl) (fun _ _ _ h => h) (Or.inl ⟨by rfl, ?hyt2⟩) (by assumption) ?_; (case hyt2 => ((intro W hSW; (try dsimp only at hSW); obtain ⟨s1, s2, s3, s4, s5⟩ := hSW; go_simp); (all_goals with_reducible rfl))); (try simp only [Act.put, List.setIfInBounds_toArray, List.set_cons_zero, List.set_cons_succ])
    refine wpAnyH_take (i := 3) (oi := ⟨some 49, _, _, _, _, _⟩) (v := ?_) rfl (by kernel_rfl) (by kernel_rfl) (by kernel_rfl) (fun _ _ _ h => h) (Or.inl ⟨by rfl, ?hyt3⟩) (by assumption) ?_; (case hyt3 => ((intro W hSW; (try dsimp only at hSW); obtain ⟨s1, s2, s3, s4, s5⟩ := hSW; go_simp); (all_goals with_reducible rfl))); (try simp only [Act.put, List.setIfInBounds_toArray, List.set_cons_zero, List.set_cons_succ])
    refine wpAnyH_take (i := 4) (oi := ⟨some 50, _, _, _, _, _⟩) (v := ?_) rfl (by kernel_rfl) (by kernel_rfl) (by kernel_rfl) (fun _ _ _ h => h) (Or.inl ⟨by rfl, ?hyt4⟩) (by assumption) ?_; (case hyt4 => ((intro W hSW; (try dsimp only at hSW); obtain ⟨s1, s2, s3, s4, s5⟩ := hSW; go_simp); (all_goals with_reducible rfl))); (try simp only [Act.put, List.setIfInBounds_toArray, List.set_cons_zero, List.set_cons_succ])
    refine wpAnyH_take (i := 5) (oi := ⟨some 51, _, _, _, _, _⟩) (v := ?_) rfl (by kernel_rfl) (by kernel_rfl) (by kernel_rfl) (fun _ _ _ h => h) (Or.inl ⟨by rfl, ?hyt5⟩) (by assumption) ?_; (case hyt5 => ((intro W hSW; (try dsimp only at hSW); obtain ⟨s1, s2, s3, s4, s5⟩ := hSW; go_simp); (all_goals with_reducible rfl))); (try simp only [Act.put, List.setIfInBounds_toArray, List.set_cons_zero, List.set_cons_succ])
    refine wpAnyH_ready (rs := [6]) (by kernel_rfl) (by simp) ?_; refine AllReadyH.cons (o := ⟨some 52, _, _, _, _, _⟩) rfl (fun K hK => ?_) AllReadyH.nil; go_simp
    go_at_call 22
    refine (HRP2.out _ (RowG.below hQ.out (B10.trans (D'.mono B10.size)))).mono ?_; rintro e w11 ⟨rfl, hb11⟩
    have D11 : Below w10.heap.size w10 w11 := D'.trans (hb11.mono D'.size)
    (try go_simp); refine hK.out _ _ (E2.out _ D11) (fun hHeld2 => ?_); clear hK K hHeld; (try simp only [Act.put, List.setIfInBounds_toArray, List.set_cons_zero, List.set_cons_succ])
    refine wpAnyH_take (i := 7) (oi := ⟨some 53, _, _, _, _, _⟩) (v := ?_) rfl (by kernel_rfl) (by kernel_rfl) (by kernel_rfl) (fun _ _ _ h => h) (Or.inl ⟨by rfl, ?hyt7⟩) (by assumption) ?_; (case hyt7 => ((intro W hSW; (try dsimp only at hSW); obtain ⟨s1, s2, s3, s4, s5⟩ := hSW; go_simp); (all_goals with_reducible rfl))); (try simp only [Act.put, List.setIfInBounds_toArray, List.set_cons_zero, List.set_cons_succ])
    refine wpAnyH_take (i := 8) (oi := ⟨some 54, _, _, _, _, _⟩) (v := ?_) rfl (by kernel_rfl) (by kernel_rfl) (by kernel_rfl) (fun _ _ _ h => h) (Or.inl ⟨by rfl, ?hyt8⟩) (by assumption) ?_; (case hyt8 => ((intro W hSW; (try dsimp only at hSW); obtain ⟨s1, s2, s3, s4, s5⟩ := hSW; go_simp); (all_goals with_reducible rfl))); (try simp only [Act.put, List.setIfInBounds_toArray, List.set_cons_zero, List.set_cons_succ])
    refine wpAnyH_take (i := 9) (oi := ⟨some 2, _, _, _, _, _⟩) (v := ?_) rfl (by kernel_rfl) (by kernel_rfl) (by kernel_rfl) (fun _ _ _ h => h) (Or.inl ⟨by rfl, ?hyt9⟩) (by assumption) ?_; (case hyt9 => ((intro W hSW; (try dsimp only at hSW); obtain ⟨s1, s2, s3, s4, s5⟩ := hSW; go_simp); (all_goals with_reducible rfl))); (try simp only [Act.put, List.setIfInBounds_toArray, List.set_cons_zero, List.set_cons_succ])
    refine wpAnyH_done (by kernel_rfl) ?_ _
    clear hHeld2
    go_wp2_with fail
    go_ret
    exact ⟨rfl, B10.trans (D11.mono B10.size)⟩
end Go.Proofs.YtfphffkgacajdaaDoor
