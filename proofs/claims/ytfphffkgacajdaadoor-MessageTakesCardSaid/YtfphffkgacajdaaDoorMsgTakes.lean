/- The walk of MessageTakes. -/
import Derived.Test.YtfphffkgacajdaaDoorMsgAG
import Derived.Test.YtfphffkgacajdaaDoorMsgTG
import Derived.Test.YtfphffkgacajdaaDoorFrPG
import Derived.Test.YtfphffkgacajdaaDoorChecked
import Derived.Test.YtfphffkgacajdaaDoorRows
namespace Go.Proofs.YtfphffkgacajdaaDoor
open Go.RowKit
set_option linter.unusedVariables false
set_option linter.unusedSimpArgs false
set_option maxHeartbeats 4000000
set_option maxRecDepth 20000
theorem messageTakes_walk (k : Int) (bk : 0 ≤ k ∧ k ≤ 255) (a : Option Addr) (len cap : Nat) (zs : List Int) (w : World) (h0 : IsRow .u8 w a len cap zs) (hT : Tab w) :
    Calls Tryd.prog 4 #[.int .u8 k, .slice a len cap] w fun e w' => e = .returned (.bool true) ∧ Below w.heap.size w w' := by
  have hB := h0.row.bytes
  generalize bytesOf (zs.take len) = b at *
  obtain ⟨kn, rfl⟩ := Int.eq_ofNat_of_zero_le bk.1
  obtain ⟨kb, rfl⟩ : ∃ kb : UInt8, kn = kb.toNat := ⟨UInt8.ofNat kn, by rw [UInt8.toNat_ofNat']; omega⟩
  clear h0 bk
  have hm : len ≤ 9223372036854775807 := by have := hB.small; unfold maxLen at this; omega
  have LL := Lib.hid hB.length
  have HT := fun W q n c (h : RowB W q n c b) (hl : n ≤ 1000000000) => mtake_any kb q n c b W h hl
  have HR := fun W (hl : b.length ≤ 1000000) => rmtake_any kb b W hl
  generalize takeM kb b = r at *
  obtain ⟨mm, x⟩ := r
  replace HT := Lib.hid HT
  replace HR := Lib.hid HR
  go_enter Tryd.func4, Tryd.ntmps4
  go_wp2_with fail
  refine (mawake_any _ hT).mono ?_; rintro e w1 ⟨rfl, hb1⟩
  have hB1 := Lib.hid (hB.below hb1)
  clear hB
  by_cases hl : 600 < len
  · go_wp2_with fail
    go_ret
    exact ⟨rfl, hb1⟩
  go_wp2_with fail
  refine (HT.out w1 a len cap hB1.out (by omega)).mono ?_; rintro e w2 ⟨q2, n2, c2, rfl, hR2, hb2⟩
  have B2 := hb1.trans (hb2.mono hb1.size)
  unfold msgV
  have XA : Hid (Box (w2.alloc (.cells #[.int .u8 (mm.kind.toNat : Int), .int .u64 (mm.seq : Int), .int .i64 mm.at_, .slice q2 n2 c2] 25)) w2.heap.size [.int .u8 (mm.kind.toNat : Int), .int .u64 (mm.seq : Int), .int .i64 mm.at_, .slice q2 n2 c2]) := Lib.hid (Box.new _ _ _ _ rfl _ rfl)
  have A2 : Below w2.heap.size w2 (w2.alloc (.cells #[.int .u8 (mm.kind.toNat : Int), .int .u64 (mm.seq : Int), .int .i64 mm.at_, .slice q2 n2 c2] 25)) := (Below.refl _ _).alloc (Nat.le_refl _) _
  have B3 := B2.trans (A2.mono B2.size)
  have hB3 := (hB1.out.below hb2).below A2
  have cv := hB3.conv 31 9 5 Tryd.underlying31 Tryd.underlying5 Tryd.underlying9 (P := Tryd.prog)
  replace hR2 := Lib.hid (RowG.below hR2 A2)
  clear hB3 hB1
  go_wp2_with fail
  refine (HR.out _ (by have := LL.out; omega)).mono ?_; rintro e w4 ⟨q4, n4, c4, rfl, hR4, hb4⟩
  have B4 := B3.trans (hb4.mono B3.size)
  replace XA := Lib.hid (XA.out.below hb4)
  replace hR2 := Lib.hid (RowG.below hR2.out hb4)
  unfold msgV
  have zA := XA.out.lt
  go_wp2_with fail
  have A4 : Below w4.heap.size w4 (w4.alloc (.cells #[.int .u8 (mm.kind.toNat : Int), .int .u64 (mm.seq : Int), .int .i64 mm.at_, .slice q4 n4 c4] 28)) := (Below.refl _ _).alloc (Nat.le_refl _) _
  have XB : Hid (Box (w4.alloc (.cells #[.int .u8 (mm.kind.toNat : Int), .int .u64 (mm.seq : Int), .int .i64 mm.at_, .slice q4 n4 c4] 28)) w4.heap.size [.int .u8 (mm.kind.toNat : Int), .int .u64 (mm.seq : Int), .int .i64 mm.at_, .slice q4 n4 c4]) := Lib.hid (Box.new _ _ _ _ rfl _ rfl)
  replace XA := Lib.hid (XA.out.below A4)
  replace hR2 := Lib.hid (RowG.below hR2.out A4)
  replace hR4 := Lib.hid (RowG.below hR4 A4)
  have B5 := B4.trans (A4.mono B4.size)
  clear cv A2 A4 hb4 hb2 B2 B3 B4
  generalize w4.alloc (.cells #[.int .u8 (mm.kind.toNat : Int), .int .u64 (mm.seq : Int), .int .i64 mm.at_, .slice q4 n4 c4] 28) = w5 at *
  have E : ∀ W, Below w5.heap.size w5 W → W.cell? ⟨w2.heap.size, 0, none⟩ = some (.int .u8 (mm.kind.toNat : Int)) ∧ W.cell? ⟨w2.heap.size, 1, none⟩ = some (.int .u64 (mm.seq : Int)) ∧ W.cell? ⟨w2.heap.size, 2, none⟩ = some (.int .i64 mm.at_) ∧ W.cell? ⟨w2.heap.size, 3, none⟩ = some (.slice q2 n2 c2) ∧ W.cell? ⟨w4.heap.size, 0, none⟩ = some (.int .u8 (mm.kind.toNat : Int)) ∧ W.cell? ⟨w4.heap.size, 1, none⟩ = some (.int .u64 (mm.seq : Int)) ∧ W.cell? ⟨w4.heap.size, 2, none⟩ = some (.int .i64 mm.at_) ∧ W.cell? ⟨w4.heap.size, 3, none⟩ = some (.slice q4 n4 c4) := fun W hW =>
    ⟨(XA.out.below hW).cell 0 _ rfl, (XA.out.below hW).cell 1 _ rfl, (XA.out.below hW).cell 2 _ rfl, (XA.out.below hW).cell 3 _ rfl, (XB.out.below hW).cell 0 _ rfl, (XB.out.below hW).cell 1 _ rfl, (XB.out.below hW).cell 2 _ rfl, (XB.out.below hW).cell 3 _ rfl⟩
  replace E := Lib.hid E
  have D := (Below.refl w5.heap.size w5).drew
  have HPL := Lib.hid (fun W => mplain_any mm q2 n2 c2 W)
  have HSM := Lib.hid (fun W h1 h2 => rmsame_any mm q2 n2 c2 mm q4 n4 c4 W h1 h2)
  unfold msgV at HPL HSM
  have hdt : decide (mm.kind = mm.kind ∧ mm.seq = mm.seq ∧ mm.at_ = mm.at_ ∧ mm.props = mm.props) = true := by simp
  rw [hdt] at HSM
  clear hdt
  refine wp_region_held_drew (S := fun W => W.cell? ⟨w2.heap.size, 0, none⟩ = some (.int .u8 (mm.kind.toNat : Int)) ∧ W.cell? ⟨w2.heap.size, 1, none⟩ = some (.int .u64 (mm.seq : Int)) ∧ W.cell? ⟨w2.heap.size, 2, none⟩ = some (.int .i64 mm.at_) ∧ W.cell? ⟨w2.heap.size, 3, none⟩ = some (.slice q2 n2 c2) ∧ W.cell? ⟨w4.heap.size, 0, none⟩ = some (.int .u8 (mm.kind.toNat : Int)) ∧ W.cell? ⟨w4.heap.size, 1, none⟩ = some (.int .u64 (mm.seq : Int)) ∧ W.cell? ⟨w4.heap.size, 2, none⟩ = some (.int .i64 mm.at_) ∧ W.cell? ⟨w4.heap.size, 3, none⟩ = some (.slice q4 n4 c4)) (by kernel_rfl) (E.out _ D) (fun hHeld => ?_)
  refine wpAnyH_take (i := 0) (oi := ⟨some 29, _, _, _, _, _⟩) (v := ?_) rfl (by kernel_rfl) (by kernel_rfl) (by kernel_rfl) (fun _ _ _ h => h) (Or.inl ⟨by rfl, ?hyt0⟩) (by assumption) ?_; (case hyt0 => ((intro W hSW; (try dsimp only at hSW); obtain ⟨s1, s2, s3, s4, s5, s6, s7, s8⟩ := hSW; go_simp); (all_goals with_reducible rfl))); (try simp only [Act.put, List.setIfInBounds_toArray, List.set_cons_zero, List.set_cons_succ])
  refine wpAnyH_take (i := 1) (oi := ⟨some 30, _, _, _, _, _⟩) (v := ?_) rfl (by kernel_rfl) (by kernel_rfl) (by kernel_rfl) (fun _ _ _ h => h) (Or.inl ⟨by rfl, ?hyt1⟩) (by assumption) ?_; (case hyt1 => ((intro W hSW; (try dsimp only at hSW); obtain ⟨s1, s2, s3, s4, s5, s6, s7, s8⟩ := hSW; go_simp); (all_goals with_reducible rfl))); (try simp only [Act.put, List.setIfInBounds_toArray, List.set_cons_zero, List.set_cons_succ])
  refine wpAnyH_take (i := 2) (oi := ⟨some 31, _, _, _, _, _⟩) (v := ?_) rfl (by kernel_rfl) (by kernel_rfl) (by kernel_rfl) (fun _ _ _ h => h) (Or.inl ⟨by rfl, ?hyt2⟩) (by assumption) ?_; (case hyt2 => ((intro W hSW; (try dsimp only at hSW); obtain ⟨s1, s2, s3, s4, s5, s6, s7, s8⟩ := hSW; go_simp); (all_goals with_reducible rfl))); (try simp only [Act.put, List.setIfInBounds_toArray, List.set_cons_zero, List.set_cons_succ])
  refine wpAnyH_take (i := 3) (oi := ⟨some 32, _, _, _, _, _⟩) (v := ?_) rfl (by kernel_rfl) (by kernel_rfl) (by kernel_rfl) (fun _ _ _ h => h) (Or.inl ⟨by rfl, ?hyt3⟩) (by assumption) ?_; (case hyt3 => ((intro W hSW; (try dsimp only at hSW); obtain ⟨s1, s2, s3, s4, s5, s6, s7, s8⟩ := hSW; go_simp); (all_goals with_reducible rfl))); (try simp only [Act.put, List.setIfInBounds_toArray, List.set_cons_zero, List.set_cons_succ])
  refine wpAnyH_take (i := 4) (oi := ⟨some 33, _, _, _, _, _⟩) (v := ?_) rfl (by kernel_rfl) (by kernel_rfl) (by kernel_rfl) (fun _ _ _ h => h) (Or.inl ⟨by rfl, ?hyt4⟩) (by assumption) ?_; (case hyt4 => ((intro W hSW; (try dsimp only at hSW); obtain ⟨s1, s2, s3, s4, s5, s6, s7, s8⟩ := hSW; go_simp); (all_goals with_reducible rfl))); (try simp only [Act.put, List.setIfInBounds_toArray, List.set_cons_zero, List.set_cons_succ])
  refine wpAnyH_take (i := 6) (oi := ⟨some 35, _, _, _, _, _⟩) (v := ?_) rfl (by kernel_rfl) (by kernel_rfl) (by kernel_rfl) (fun _ _ _ h => h) (Or.inl ⟨by rfl, ?hyt6⟩) (by assumption) ?_; (case hyt6 => ((intro W hSW; (try dsimp only at hSW); obtain ⟨s1, s2, s3, s4, s5, s6, s7, s8⟩ := hSW; go_simp); (all_goals with_reducible rfl))); (try simp only [Act.put, List.setIfInBounds_toArray, List.set_cons_zero, List.set_cons_succ])
  refine wpAnyH_ready (rs := [5]) (by kernel_rfl) (by simp) ?_; refine AllReadyH.cons (o := ⟨some 34, _, _, _, _, _⟩) rfl (fun K hK => ?_) AllReadyH.nil; go_simp
  go_at_call 16
  refine (HPL.out _).mono ?_; rintro e w6 ⟨rfl, hb6⟩
  have B6 : Below w5.heap.size w5 w6 := D.trans (hb6.mono D.size)
  (try go_simp)
  refine hK.out _ _ (E.out _ B6) (fun hHeld2 => ?_)
  clear hK K hHeld
  (try simp only [Act.put, List.setIfInBounds_toArray, List.set_cons_zero, List.set_cons_succ])
  refine wpAnyH_ready (rs := [7]) (by kernel_rfl) (by simp) ?_; refine AllReadyH.cons (o := ⟨some 36, _, _, _, _, _⟩) rfl (fun K hK => ?_) AllReadyH.nil; go_simp
  go_at_call 25
  refine (HSM.out _ (RowG.below hR2.out B6) (RowG.below hR4.out B6)).mono ?_; rintro e w7 ⟨rfl, hb7⟩
  have B7 : Below w5.heap.size w5 w7 := B6.trans (hb7.mono B6.size)
  (try go_simp)
  refine hK.out _ _ (E.out _ B7) (fun hHeld3 => ?_)
  clear hK K hHeld2
  (try simp only [Act.put, List.setIfInBounds_toArray, List.set_cons_zero, List.set_cons_succ])
  refine wpAnyH_take (i := 8) (oi := ⟨some 37, _, _, _, _, _⟩) (v := ?_) rfl (by kernel_rfl) (by kernel_rfl) (by kernel_rfl) (fun _ _ _ h => h) (Or.inl ⟨by rfl, ?hyt8⟩) (by assumption) ?_; (case hyt8 => ((intro W hSW; (try dsimp only at hSW); obtain ⟨s1, s2, s3, s4, s5, s6, s7, s8⟩ := hSW; go_simp); (all_goals with_reducible rfl))); (try simp only [Act.put, List.setIfInBounds_toArray, List.set_cons_zero, List.set_cons_succ])
  refine wpAnyH_take (i := 9) (oi := ⟨some 4, _, _, _, _, _⟩) (v := ?_) rfl (by kernel_rfl) (by kernel_rfl) (by kernel_rfl) (fun _ _ _ h => h) (Or.inl ⟨by rfl, ?hyt9⟩) (by assumption) ?_; (case hyt9 => ((intro W hSW; (try dsimp only at hSW); obtain ⟨s1, s2, s3, s4, s5, s6, s7, s8⟩ := hSW; go_simp); (all_goals with_reducible rfl))); (try simp only [Act.put, List.setIfInBounds_toArray, List.set_cons_zero, List.set_cons_succ])
  refine wpAnyH_done (by kernel_rfl) ?_ _
  clear hHeld3
  go_wp2_with fail
  go_ret
  exact ⟨rfl, B5.trans (B7.mono B5.size)⟩
end Go.Proofs.YtfphffkgacajdaaDoor
