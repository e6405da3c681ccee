/- The walk of MessageBack. -/
import Derived.Test.YtfphffkgacajdaaDoorMsgAG
import Derived.Test.YtfphffkgacajdaaDoorMsgTG
import Derived.Test.YtfphffkgacajdaaDoorMsgOpen
import Derived.Test.YtfphffkgacajdaaDoorFrPG
import Derived.Test.YtfphffkgacajdaaDoorChecked
import Derived.Test.YtfphffkgacajdaaDoorRows
namespace Go.Proofs.YtfphffkgacajdaaDoor
open Go.RowKit
set_option linter.unusedVariables false
set_option linter.unusedSimpArgs false
set_option maxHeartbeats 1600000
set_option maxRecDepth 20000
/-- the part behind the message: what is taken is put as just those bytes -/
theorem mb_tail (kb : UInt8) (b : List UInt8) (mm : Msg) (hm : takeM kb b = (mm, 0)) : mayM mm = true ∧ mm.kind = kb ∧ putM mm = b := takeM_back hm
theorem takeM_ok (k : UInt8) (b : List UInt8) : (takeM k b).1.ok := by
  have h0 : msg0.ok := ok_nil 0 0 0 (by omega) (by omega)
  have fin : ∀ (m : Msg) (bs : List UInt8) (e : Int), m.ok → (finM m bs e).1.ok := by
    intro m bs e hm
    unfold finM
    split
    · exact h0
    · split
      · exact h0
      · exact hm
  have hn := Oct.rNum_lt b 0
  have hr := rMom_range b 0
  unfold takeM
  split
  · exact fin _ _ _ (ok_nil 1 _ 0 (by omega) (by omega))
  · split
    · split
      · exact h0
      · exact fin _ _ _ (ok_props 2 _ _ _ _ _ (by show (Oct.rNum b 0).1 ≤ _; omega) (by have := rMom_range (Oct.rNum b 0).2.1 (Oct.rNum b 0).2.2; exact ⟨by show _ ≤ (Oct.rMom _ _).1; omega, this.2⟩))
    · split
      · exact fin _ _ _ (ok_nil 3 0 _ (by omega) (by omega))
      · split
        · exact fin _ _ _ (ok_nil 4 0 0 (by omega) (by omega))
        · exact h0
theorem messageBack_walk (m : Msg) (q : Option Addr) (n c : Nat) (k : Int) (bk : 0 ≤ k ∧ k ≤ 255) (a : Option Addr) (len cap : Nat) (zs : List Int) (w : World) (hQ : RowQ w q n m.props) (hokW : m.okW) (h0 : IsRow .u8 w a len cap zs) (hT : Tab w) :
    Calls Tryd.prog 5 #[msgV m q n c, .int .u8 k, .slice a len cap] w fun e w' => e = .returned (.bool true) ∧ Below w.heap.size w w' := by
  have hB := h0.row.bytes
  generalize bytesOf (zs.take len) = b at *
  obtain ⟨kn, rfl⟩ := Int.eq_ofNat_of_zero_le bk.1
  obtain ⟨kb, rfl⟩ : ∃ kb : UInt8, kn = kb.toNat := ⟨UInt8.ofNat kn, by rw [UInt8.toNat_ofNat']; omega⟩
  clear h0 bk
  have hmx : len ≤ 9223372036854775807 := by have := hB.small; unfold maxLen at this; omega
  have LL := Lib.hid hB.length
  have HW := Lib.hid (fun W h => few_any m q n c W h hokW.names)
  by_cases hbad : fewB m.props = false ∨ 600 < len
  · have hbad' : Hid (fewB m.props = false ∨ 600 < len) := Lib.hid hbad
    clear hbad
    unfold msgV at HW ⊢
    generalize fewB m.props = fw at *
    obtain ⟨W1, eW1⟩ : ∃ W, w.alloc (.cells #[.int .u8 (m.kind.toNat : Int), .int .u64 (m.seq : Int), .int .i64 m.at_, .slice q n c] 25) = W := ⟨_, rfl⟩
    have B1 : Below w.heap.size w W1 := by rw [← eW1]; exact (Below.refl _ _).alloc (Nat.le_refl _) _
    have X1 : Hid (Box W1 w.heap.size [.int .u8 (m.kind.toNat : Int), .int .u64 (m.seq : Int), .int .i64 m.at_, .slice q n c]) := Lib.hid (by rw [← eW1]; exact Box.new w _ _ _ rfl _ rfl)
    go_enter Tryd.func5, Tryd.ntmps5
    go_wp2_with fail
    refine (mawake_any _ (hT.below B1)).mono ?_; rintro e w2 ⟨rfl, hb2⟩
    have B2 := B1.trans (hb2.mono B1.size)
    have m0 := (X1.out.below hb2).cell 0 _ rfl
    have m1 := (X1.out.below hb2).cell 1 _ rfl
    have m2 := (X1.out.below hb2).cell 2 _ rfl
    have m3 := (X1.out.below hb2).cell 3 _ rfl
    go_wp2_with fail
    refine (HW.out _ (RowG.below hQ B2)).mono ?_; rintro e w3 ⟨rfl, hb3⟩
    cases fw with
    | false =>
      go_wp2_with fail
      go_ret
      exact ⟨rfl, B2.trans (hb3.mono B2.size)⟩
    | true =>
      have hl : 600 < len := by rcases hbad'.out with h | h; cases h; exact h
      have hl' : (600 : Int) < (len : Int) := by omega
      go_wp2_with fail
      go_ret
      exact ⟨rfl, B2.trans (hb3.mono B2.size)⟩
  have hfw : fewB m.props = true := by
    cases h : fewB m.props with
    | false => exact absurd (.inl h) hbad
    | true => rfl
  have hl : ¬ 600 < len := fun h => hbad (.inr h)
  have hl' : ¬ (600 : Int) < (len : Int) := by omega
  have hok := hokW.ok hfw
  rw [hfw] at HW
  clear hfw hokW hbad
  have HPL1 := Lib.hid (fun W => mplain_any m q n c W)
  have HPL2 := Lib.hid (fun W q n c => mplain_any m q n c W)
  have HSM := Lib.hid (fun W q1 n1 c1 h1 h2 => rmsame_any m q1 n1 c1 m q n c W h1 h2)
  have hdt : decide (m.kind = m.kind ∧ m.seq = m.seq ∧ m.at_ = m.at_ ∧ m.props = m.props) = true := by simp
  rw [hdt] at HSM
  clear hdt
  have HPP := Lib.hid (fun W h => mput_any m q n c W hok h)
  have HTK : mayM m = true → ∀ W q n c (h : RowB W q n c (putM m)), n ≤ 256 → Calls Tryd.prog 23 #[.int .u8 (m.kind.toNat : Int), .slice q n c] W (TookM W (m, 0)) := fun hm W q n c h hn => by
    have := mtake_any m.kind q n c (putM m) W h (by omega)
    have e2 := take_putM m hok hm []
    rw [List.append_nil, if_pos rfl] at e2
    rwa [e2] at this
  have hle : mayM m = true → (putM m).length ≤ 256 := putM_le
  have hputC : putC m = if mayM m = true then putM m else [] := rfl
  have herrC : errC m = if mayM m = true then 0 else 1 := rfl
  -- the second half's contracts
  have HT := fun W q n c (h : RowB W q n c b) (hl : n ≤ 1000000000) => mtake_any kb q n c b W h hl
  have hrok := takeM_ok kb b
  have hbk : (takeM kb b).2 = 0 → mayM (takeM kb b).1 = true ∧ (takeM kb b).1.kind = kb ∧ putM (takeM kb b).1 = b := fun h => mb_tail kb b _ (Prod.ext rfl h)
  generalize takeM kb b = r at *
  obtain ⟨mm, x⟩ := r
  simp only at hrok hbk
  have HPY := Lib.hid (fun W q n c h => mput_any mm q n c W hrok h)
  have HMY := Lib.hid (fun W q n c h => mmay_any mm q n c W hrok h)
  replace HT := Lib.hid HT
  replace hbk := Lib.hid hbk
  clear hrok hok
  generalize putC m = pc at *
  generalize errC m = ec at *
  generalize putM m = pm at *
  generalize mayM m = bm at *
  replace HTK := Lib.hid HTK
  replace hputC := Lib.hid hputC
  replace herrC := Lib.hid herrC
  replace hle := Lib.hid hle
  replace hQ := Lib.hid hQ
  replace hT := Lib.hid hT
  replace hB := Lib.hid hB
  unfold msgV at HW HPL1 HPP HSM ⊢
  obtain ⟨W1, eW1⟩ : ∃ W, w.alloc (.cells #[.int .u8 (m.kind.toNat : Int), .int .u64 (m.seq : Int), .int .i64 m.at_, .slice q n c] 25) = W := ⟨_, rfl⟩
  have B1 : Below w.heap.size w W1 := by rw [← eW1]; exact (Below.refl _ _).alloc (Nat.le_refl _) _
  have XA : Hid (Box W1 w.heap.size [.int .u8 (m.kind.toNat : Int), .int .u64 (m.seq : Int), .int .i64 m.at_, .slice q n c]) := Lib.hid (by rw [← eW1]; exact Box.new w _ _ _ rfl _ rfl)
  go_enter Tryd.func5, Tryd.ntmps5
  go_wp2_with fail
  refine (mawake_any _ (hT.out.below B1)).mono ?_; rintro e w2 ⟨rfl, hb2⟩
  have B2 := B1.trans (hb2.mono B1.size)
  replace XA := Lib.hid (XA.out.below hb2)
  clear eW1 hb2 B1
  have m0 := XA.out.cell 0 _ rfl
  have m1 := XA.out.cell 1 _ rfl
  have m2 := XA.out.cell 2 _ rfl
  have m3 := XA.out.cell 3 _ rfl
  go_wp2_with fail
  refine (HW.out _ (RowG.below hQ.out B2)).mono ?_; rintro e w3 ⟨rfl, hb3⟩
  have B3 := B2.trans (hb3.mono B2.size)
  replace XA := Lib.hid (XA.out.below hb3)
  clear m0 m1 m2 m3 hb3 B2
  have m0 := XA.out.cell 0 _ rfl
  have m1 := XA.out.cell 1 _ rfl
  have m2 := XA.out.cell 2 _ rfl
  have m3 := XA.out.cell 3 _ rfl
  go_wp2_with fail
  refine (HPP.out _ (RowG.below hQ.out B3)).mono ?_; rintro e w4 ⟨v4, rfl, hO4, hb4⟩
  have B4 := B3.trans (hb4.mono B3.size)
  replace XA := Lib.hid (XA.out.below hb4)
  clear m0 m1 m2 m3 hb4 B3
  obtain ⟨q4, c4, rfl, hR4, _⟩ := hO4.row
  replace hR4 := Lib.hid hR4
  clear hO4
  cases bm
  case' false =>
    have hp := hputC.out
    have he := herrC.out
    rw [if_neg (by simp)] at hp he
    subst hp he
    go_wp2_with fail
    obtain ⟨wZ, hwZ⟩ : ∃ wZ, wZ = w4 := ⟨_, rfl⟩
    rw [← hwZ] at B4 ⊢
    have BZ := B4
    clear hwZ
  case' true =>
    have hp := hputC.out
    have he := herrC.out
    rw [if_pos rfl] at hp he
    subst he
    subst hp
    have hle' := hle.out rfl
    have HTK2 := Lib.hid (HTK.out rfl)
    have m0 := XA.out.cell 0 _ rfl
    have m1 := XA.out.cell 1 _ rfl
    have m2 := XA.out.cell 2 _ rfl
    have m3 := XA.out.cell 3 _ rfl
    go_wp2_with fail
    refine (HTK2.out _ _ _ _ hR4.out hle').mono ?_; rintro e w5 ⟨q5, n5, c5, rfl, hR5, hb5⟩
    unfold msgV
    simp only at hR5 ⊢
    have zA := XA.out.lt
    have b6 : Below w4.heap.size w4 (w5.alloc (.cells #[.int .u8 (m.kind.toNat : Int), .int .u64 (m.seq : Int), .int .i64 m.at_, .slice q5 n5 c5] 25)) := hb5.alloc hb5.size _
    have XC : Hid (Box (w5.alloc (.cells #[.int .u8 (m.kind.toNat : Int), .int .u64 (m.seq : Int), .int .i64 m.at_, .slice q5 n5 c5] 25)) w5.heap.size [.int .u8 (m.kind.toNat : Int), .int .u64 (m.seq : Int), .int .i64 m.at_, .slice q5 n5 c5]) := Lib.hid (Box.new _ _ _ _ rfl _ rfl)
    replace hR5 := Lib.hid (RowG.below hR5 ((Below.refl _ _).alloc (Nat.le_refl _) (.cells #[.int .u8 (m.kind.toNat : Int), .int .u64 (m.seq : Int), .int .i64 m.at_, .slice q5 n5 c5] 25)))
    replace XA := Lib.hid (XA.out.below b6)
    have B6 := B4.trans (b6.mono B4.size)
    clear m0 m1 m2 m3 hb5 b6 B4
    go_wp2_with fail
    generalize w5.alloc (.cells #[.int .u8 (m.kind.toNat : Int), .int .u64 (m.seq : Int), .int .i64 m.at_, .slice q5 n5 c5] 25) = w6 at *
    have E : ∀ W, Below w6.heap.size w6 W → W.cell? ⟨w5.heap.size, 0, none⟩ = some (.int .u8 (m.kind.toNat : Int)) ∧ W.cell? ⟨w5.heap.size, 1, none⟩ = some (.int .u64 (m.seq : Int)) ∧ W.cell? ⟨w5.heap.size, 2, none⟩ = some (.int .i64 m.at_) ∧ W.cell? ⟨w5.heap.size, 3, none⟩ = some (.slice q5 n5 c5) ∧ W.cell? ⟨w.heap.size, 0, none⟩ = some (.int .u8 (m.kind.toNat : Int)) ∧ W.cell? ⟨w.heap.size, 1, none⟩ = some (.int .u64 (m.seq : Int)) ∧ W.cell? ⟨w.heap.size, 2, none⟩ = some (.int .i64 m.at_) ∧ W.cell? ⟨w.heap.size, 3, none⟩ = some (.slice q n c) := fun W hW => ⟨(XC.out.below hW).cell 0 _ rfl, (XC.out.below hW).cell 1 _ rfl, (XC.out.below hW).cell 2 _ rfl, (XC.out.below hW).cell 3 _ rfl, (XA.out.below hW).cell 0 _ rfl, (XA.out.below hW).cell 1 _ rfl, (XA.out.below hW).cell 2 _ rfl, (XA.out.below hW).cell 3 _ rfl⟩
    replace E := Lib.hid E
    have D := (Below.refl w6.heap.size w6).drew
    have HPL3 := Lib.hid (fun W => HPL2.out W q5 n5 c5)
    unfold msgV at HPL3
    refine wp_region_held_drew (S := fun W => W.cell? ⟨w5.heap.size, 0, none⟩ = some (.int .u8 (m.kind.toNat : Int)) ∧ W.cell? ⟨w5.heap.size, 1, none⟩ = some (.int .u64 (m.seq : Int)) ∧ W.cell? ⟨w5.heap.size, 2, none⟩ = some (.int .i64 m.at_) ∧ W.cell? ⟨w5.heap.size, 3, none⟩ = some (.slice q5 n5 c5) ∧ W.cell? ⟨w.heap.size, 0, none⟩ = some (.int .u8 (m.kind.toNat : Int)) ∧ W.cell? ⟨w.heap.size, 1, none⟩ = some (.int .u64 (m.seq : Int)) ∧ W.cell? ⟨w.heap.size, 2, none⟩ = some (.int .i64 m.at_) ∧ W.cell? ⟨w.heap.size, 3, none⟩ = some (.slice q n c)) (by kernel_rfl) (E.out _ D) (fun hHeld => ?_)
    refine wpAnyH_take (i := 0) (oi := ⟨some 43, _, _, _, _, _⟩) (v := ?_) rfl (by kernel_rfl) (by kernel_rfl) (by kernel_rfl) (fun _ _ _ h => h) (Or.inl ⟨by rfl, ?hyt0⟩) (by assumption) ?_; (case hyt0 => ((intro W hSW; (try dsimp only at hSW); obtain ⟨s1, s2, s3, s4, s5, s6, s7, s8⟩ := hSW; go_simp); (all_goals with_reducible rfl))); (try simp only [Act.put, List.setIfInBounds_toArray, List.set_cons_zero, List.set_cons_succ])
    refine wpAnyH_take (i := 1) (oi := ⟨some 44, _, _, _, _, _⟩) (v := ?_) rfl (by kernel_rfl) (by kernel_rfl) (by kernel_rfl) (fun _ _ _ h => h) (Or.inl ⟨by rfl, ?hyt1⟩) (by assumption) ?_; (case hyt1 => ((intro W hSW; (try dsimp only at hSW); obtain ⟨s1, s2, s3, s4, s5, s6, s7, s8⟩ := hSW; go_simp); (all_goals with_reducible rfl))); (try simp only [Act.put, List.setIfInBounds_toArray, List.set_cons_zero, List.set_cons_succ])
    refine wpAnyH_take (i := 2) (oi := ⟨some 45, _, _, _, _, _⟩) (v := ?_) rfl (by kernel_rfl) (by kernel_rfl) (by kernel_rfl) (fun _ _ _ h => h) (Or.inl ⟨by rfl, ?hyt2⟩) (by assumption) ?_; (case hyt2 => ((intro W hSW; (try dsimp only at hSW); obtain ⟨s1, s2, s3, s4, s5, s6, s7, s8⟩ := hSW; go_simp); (all_goals with_reducible rfl))); (try simp only [Act.put, List.setIfInBounds_toArray, List.set_cons_zero, List.set_cons_succ])
    refine wpAnyH_take (i := 3) (oi := ⟨some 46, _, _, _, _, _⟩) (v := ?_) rfl (by kernel_rfl) (by kernel_rfl) (by kernel_rfl) (fun _ _ _ h => h) (Or.inl ⟨by rfl, ?hyt3⟩) (by assumption) ?_; (case hyt3 => ((intro W hSW; (try dsimp only at hSW); obtain ⟨s1, s2, s3, s4, s5, s6, s7, s8⟩ := hSW; go_simp); (all_goals with_reducible rfl))); (try simp only [Act.put, List.setIfInBounds_toArray, List.set_cons_zero, List.set_cons_succ])
    refine wpAnyH_take (i := 5) (oi := ⟨some 48, _, _, _, _, _⟩) (v := ?_) rfl (by kernel_rfl) (by kernel_rfl) (by kernel_rfl) (fun _ _ _ h => h) (Or.inl ⟨by rfl, ?hyt5⟩) (by assumption) ?_; (case hyt5 => ((intro W hSW; (try dsimp only at hSW); obtain ⟨s1, s2, s3, s4, s5, s6, s7, s8⟩ := hSW; go_simp); (all_goals with_reducible rfl))); (try simp only [Act.put, List.setIfInBounds_toArray, List.set_cons_zero, List.set_cons_succ])
    refine wpAnyH_ready (rs := [4]) (by kernel_rfl) (by simp) ?_; refine AllReadyH.cons (o := ⟨some 47, _, _, _, _, _⟩) rfl (fun K hK => ?_) AllReadyH.nil; go_simp
    go_at_call 16
    refine (HPL3.out _).mono ?_; rintro e w7 ⟨rfl, hb7⟩
    have D7 : Below w6.heap.size w6 w7 := D.trans (hb7.mono D.size)
    (try go_simp); refine hK.out _ _ (E.out _ D7) (fun hHeld2 => ?_); clear hK K hHeld; (try simp only [Act.put, List.setIfInBounds_toArray, List.set_cons_zero, List.set_cons_succ])
    refine wpAnyH_ready (rs := [6]) (by kernel_rfl) (by simp) ?_; refine AllReadyH.cons (o := ⟨some 49, _, _, _, _, _⟩) rfl (fun K hK => ?_) AllReadyH.nil; go_simp
    go_at_call 16
    refine (HPL1.out _).mono ?_; rintro e w8 ⟨rfl, hb8⟩
    have D8 : Below w6.heap.size w6 w8 := D7.trans (hb8.mono D7.size)
    (try go_simp); refine hK.out _ _ (E.out _ D8) (fun hHeld3 => ?_); clear hK K hHeld2; (try simp only [Act.put, List.setIfInBounds_toArray, List.set_cons_zero, List.set_cons_succ])
    refine wpAnyH_ready (rs := [7]) (by kernel_rfl) (by simp) ?_; refine AllReadyH.cons (o := ⟨some 50, _, _, _, _, _⟩) rfl (fun K hK => ?_) AllReadyH.nil; go_simp
    go_at_call 25
    refine (HSM.out _ _ _ _ (RowG.below hR5.out D8) (RowG.below hQ.out (B6.trans (D8.mono B6.size)))).mono ?_; rintro e wZ ⟨rfl, hb9⟩
    have D9 : Below w6.heap.size w6 wZ := D8.trans (hb9.mono D8.size)
    (try go_simp); refine hK.out _ _ (E.out _ D9) (fun hHeld4 => ?_); clear hK K hHeld3; (try simp only [Act.put, List.setIfInBounds_toArray, List.set_cons_zero, List.set_cons_succ])
    refine wpAnyH_take (i := 8) (oi := ⟨some 51, _, _, _, _, _⟩) (v := ?_) rfl (by kernel_rfl) (by kernel_rfl) (by kernel_rfl) (fun _ _ _ h => h) (Or.inl ⟨by rfl, ?hyt8⟩) (by assumption) ?_; (case hyt8 => ((intro W hSW; (try dsimp only at hSW); obtain ⟨s1, s2, s3, s4, s5, s6, s7, s8⟩ := hSW; go_simp); (all_goals with_reducible rfl))); (try simp only [Act.put, List.setIfInBounds_toArray, List.set_cons_zero, List.set_cons_succ])
    refine wpAnyH_take (i := 9) (oi := ⟨some 52, _, _, _, _, _⟩) (v := ?_) rfl (by kernel_rfl) (by kernel_rfl) (by kernel_rfl) (fun _ _ _ h => h) (Or.inl ⟨by rfl, ?hyt9⟩) (by assumption) ?_; (case hyt9 => ((intro W hSW; (try dsimp only at hSW); obtain ⟨s1, s2, s3, s4, s5, s6, s7, s8⟩ := hSW; go_simp); (all_goals with_reducible rfl))); (try simp only [Act.put, List.setIfInBounds_toArray, List.set_cons_zero, List.set_cons_succ])
    refine wpAnyH_done (by kernel_rfl) ?_ _
    clear hHeld4
    have BZ := B6.trans (D9.mono B6.size)
    go_wp2_with fail
  all_goals
    have hBZ := Lib.hid (hB.out.below BZ)
    refine (HT.out _ _ _ _ hBZ.out (by omega)).mono ?_; rintro e wY ⟨qY, nY, cY, rfl, hRY, hbY⟩
    have BY := BZ.trans (hbY.mono BZ.size)
    unfold msgV
    simp only at hRY ⊢
    by_cases hx : x = 0
    · subst hx
      obtain ⟨g1, g2, g3⟩ := hbk.out rfl
      have hpY : putC mm = b := by unfold putC; rw [if_pos g1]; exact g3
      have heY : errC mm = 0 := by unfold errC; rw [if_pos g1]
      have HY := Lib.hid (fun W h => HPY.out W qY nY cY h)
      have HM := Lib.hid (fun W h => HMY.out W qY nY cY h)
      unfold msgV at HY HM
      rw [hpY, heY] at HY
      rw [g1] at HM
      rw [g2] at HY HM ⊢
      clear g1 g2 g3 hpY heY HPY HMY hbk HT
      have XY : Hid (Box (wY.alloc (.cells #[.int .u8 (kb.toNat : Int), .int .u64 (mm.seq : Int), .int .i64 mm.at_, .slice qY nY cY] 25)) wY.heap.size [.int .u8 (kb.toNat : Int), .int .u64 (mm.seq : Int), .int .i64 mm.at_, .slice qY nY cY]) := Lib.hid (Box.new _ _ _ _ rfl _ rfl)
      have bY : Below wY.heap.size wY (wY.alloc (.cells #[.int .u8 (kb.toNat : Int), .int .u64 (mm.seq : Int), .int .i64 mm.at_, .slice qY nY cY] 25)) := (Below.refl _ _).alloc (Nat.le_refl _) _
      replace hRY := Lib.hid (RowG.below hRY bY)
      have BY2 := BY.trans (bY.mono BY.size)
      go_wp2_with fail
      refine (HY.out _ hRY.out).mono ?_; rintro e wX ⟨vX, rfl, hOX, hbX⟩
      have BX := BY2.trans (hbX.mono BY2.size)
      obtain ⟨qX, cX, rfl, hRX, _⟩ := hOX.row
      replace XY := Lib.hid (XY.out.below hbX)
      replace hRY := Lib.hid (RowG.below hRY.out hbX)
      have cv1 := hRX.conv 31 9 5 Tryd.underlying31 Tryd.underlying5 Tryd.underlying9 (P := Tryd.prog)
      have cv2 := (hB.out.below BX).conv 31 9 5 Tryd.underlying31 Tryd.underlying5 Tryd.underlying9 (P := Tryd.prog)
      have m0 := XY.out.cell 0 _ rfl
      have m1 := XY.out.cell 1 _ rfl
      have m2 := XY.out.cell 2 _ rfl
      have m3 := XY.out.cell 3 _ rfl
      clear hOX hRX hbX bY
      go_wp2_with fail
      refine (HM.out _ hRY.out).mono ?_; rintro e wV ⟨rfl, hbV⟩
      go_wp2_with fail
      go_ret
      exact ⟨rfl, BX.trans (hbV.mono BX.size)⟩
    · have hx' : (x == 0) = false := by rw [beq_eq_false_iff_ne]; exact hx
      go_wp2_with fail
      go_ret
      exact ⟨rfl, (by repeat (first | with_reducible exact BY | with_reducible refine Below.alloc ?_ (by first | exact BY.size | ((try simp) <;> omega)) _))⟩
end Go.Proofs.YtfphffkgacajdaaDoor
