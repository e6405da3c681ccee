/- The walk of FramePuts. -/
import Derived.Test.YtegbjlimiephlaaDoorFrAwake
import Derived.Test.YtegbjlimiephlaaDoorFrRPut
import Derived.Test.YtegbjlimiephlaaDoorFrTab
import Derived.Test.YtegbjlimiephlaaDoorChecked
import Derived.Test.YtegbjlimiephlaaDoorRows
namespace Go.Proofs.YtegbjlimiephlaaDoor
open Go.RowKit
set_option linter.unusedVariables false
set_option linter.unusedSimpArgs false
set_option maxHeartbeats 4000000
set_option maxRecDepth 20000
theorem framePuts_walk (k : Int) (bk : 0 ≤ k ∧ k ≤ 255) (a : Option Addr) (len cap : Nat) (zs : List Int) (w : World) (h0 : IsRow .u8 w a len cap zs) (hT : Tab w) :
    Calls Tryd.prog 3 #[.int .u8 k, .slice a len cap] w fun e w' => e = .returned (.bool true) ∧ Below w.heap.size w w' := by
  have hB := h0.row.bytes
  generalize bytesOf (zs.take len) = b at *
  obtain ⟨kn, rfl⟩ := Int.eq_ofNat_of_zero_le bk.1
  obtain ⟨kb, rfl⟩ : ∃ kb : UInt8, kn = kb.toNat := ⟨UInt8.ofNat kn, by rw [UInt8.toNat_ofNat']; omega⟩
  clear h0 bk
  have hm : len ≤ 9223372036854775807 := by have := hB.small; unfold maxLen at this; omega
  have LL := Lib.hid hB.length
  go_enter Tryd.func3, Tryd.ntmps3
  go_wp2_with fail
  refine (awake_any _ hT).mono ?_; rintro e w1 ⟨rfl, hb1⟩
  have hB1 := hB.below hb1
  have hT1 := hT.below hb1
  by_cases hl : 600 < len
  · go_wp2_with fail
    go_ret
    exact ⟨rfl, hb1⟩
  by_cases hl2 : 256 < len
  · go_wp2_with fail
    refine (put_long kb a len cap w1 hl2 hB.small).mono ?_; rintro e w' ⟨rfl, rfl⟩
    go_wp2_with fail
    go_ret
    exact ⟨by simp, hb1⟩
  go_wp2_with fail
  refine (put_any kb a len cap b w1 hB1 (by omega) hT1).mono ?_; rintro e w2 ⟨v, rfl, hO, hb2⟩
  have B2 := hb1.trans (hb2.mono hb1.size)
  obtain ⟨q, c, rfl, hR, _⟩ := hO.row
  have cv1 := hR.conv (P := Tryd.prog) 22 9 5 Tryd.underlying22 Tryd.underlying5 Tryd.underlying9
  have cv2 := (hB1.below hb2).conv (P := Tryd.prog) 22 9 5 Tryd.underlying22 Tryd.underlying5 Tryd.underlying9
  have RP := Lib.hid (fun W => rput_any kb b W (by have := LL.out; omega))
  have CV : ∀ W, Below w2.heap.size w2 W → (convert 22 9 (.slice q (Fr.put kb b).length c)).run Tryd.prog W = .ok (.string ⟨(Fr.put kb b).toArray⟩) W ∧ (convert 22 9 (.slice a len cap)).run Tryd.prog W = .ok (.string ⟨b.toArray⟩) W := fun W hW => ⟨(hR.below hW).conv (P := Tryd.prog) 22 9 5 Tryd.underlying22 Tryd.underlying5 Tryd.underlying9, ((hB1.below hb2).below hW).conv (P := Tryd.prog) 22 9 5 Tryd.underlying22 Tryd.underlying5 Tryd.underlying9⟩
  clear hO hR cv1 cv2
  have D0 := (Below.refl w2.heap.size w2).drew
  replace CV := Lib.hid CV
  go_wp2_with fail
  refine wp_region_held_drew (S := fun W => (convert 22 9 (.slice q (Fr.put kb b).length c)).run Tryd.prog W = .ok (.string ⟨(Fr.put kb b).toArray⟩) W ∧ (convert 22 9 (.slice a len cap)).run Tryd.prog W = .ok (.string ⟨b.toArray⟩) W) (by kernel_rfl) (CV.out _ D0) (fun hHeld => ?_)
  refine wpAnyH_take (i := 0) (oi := ⟨some 30, _, _, _, _, _⟩) (v := ?_) rfl (by kernel_rfl) (by kernel_rfl) (by kernel_rfl) (fun _ _ _ h => h) (Or.inl ⟨by rfl, ?hyt0⟩) (by assumption) ?_; (case hyt0 => ((intro W hSW; (try dsimp only at hSW); obtain ⟨hSW, hSW2⟩ := hSW; go_simp); (all_goals with_reducible rfl))); (try simp only [Act.put, List.setIfInBounds_toArray, List.set_cons_zero, List.set_cons_succ])
  refine wpAnyH_take (i := 1) (oi := ⟨some 31, _, _, _, _, _⟩) (v := ?_) rfl (by kernel_rfl) (by kernel_rfl) (by kernel_rfl) (fun _ _ _ h => h) (Or.inl ⟨by rfl, ?hyt1⟩) (by assumption) ?_; (case hyt1 => ((intro W hSW; (try dsimp only at hSW); obtain ⟨hSW, hSW2⟩ := hSW; go_simp); (all_goals with_reducible rfl))); (try simp only [Act.put, List.setIfInBounds_toArray, List.set_cons_zero, List.set_cons_succ])
  refine wpAnyH_take (i := 2) (oi := ⟨some 32, _, _, _, _, _⟩) (v := ?_) rfl (by kernel_rfl) (by kernel_rfl) (by kernel_rfl) (fun _ _ _ h => h) (Or.inl ⟨by rfl, ?hyt2⟩) (by assumption) ?_; (case hyt2 => ((intro W hSW; (try dsimp only at hSW); obtain ⟨hSW, hSW2⟩ := hSW; go_simp); (all_goals with_reducible rfl))); (try simp only [Act.put, List.setIfInBounds_toArray, List.set_cons_zero, List.set_cons_succ])
  refine wpAnyH_take (i := 3) (oi := ⟨some 33, _, _, _, _, _⟩) (v := ?_) rfl (by kernel_rfl) (by kernel_rfl) (by kernel_rfl) (fun _ _ _ h => h) (Or.inl ⟨by rfl, ?hyt3⟩) (by assumption) ?_; (case hyt3 => ((intro W hSW; (try dsimp only at hSW); obtain ⟨hSW, hSW2⟩ := hSW; go_simp); (all_goals with_reducible rfl))); (try simp only [Act.put, List.setIfInBounds_toArray, List.set_cons_zero, List.set_cons_succ])
  refine wpAnyH_take (i := 4) (oi := ⟨some 34, _, _, _, _, _⟩) (v := ?_) rfl (by kernel_rfl) (by kernel_rfl) (by kernel_rfl) (fun _ _ _ h => h) (Or.inl ⟨by rfl, ?hyt4⟩) (by assumption) ?_; (case hyt4 => ((intro W hSW; (try dsimp only at hSW); obtain ⟨hSW, hSW2⟩ := hSW; go_simp); (all_goals with_reducible rfl))); (try simp only [Act.put, List.setIfInBounds_toArray, List.set_cons_zero, List.set_cons_succ])
  refine wpAnyH_take (i := 5) (oi := ⟨some 35, _, _, _, _, _⟩) (v := ?_) rfl (by kernel_rfl) (by kernel_rfl) (by kernel_rfl) (fun _ _ _ h => h) (Or.inl ⟨by rfl, ?hyt5⟩) (by assumption) ?_; (case hyt5 => ((intro W hSW; (try dsimp only at hSW); obtain ⟨hSW, hSW2⟩ := hSW; go_simp); (all_goals with_reducible rfl))); (try simp only [Act.put, List.setIfInBounds_toArray, List.set_cons_zero, List.set_cons_succ])
  refine wpAnyH_take (i := 6) (oi := ⟨some 36, _, _, _, _, _⟩) (v := ?_) rfl (by kernel_rfl) (by kernel_rfl) (by kernel_rfl) (fun _ _ _ h => h) (Or.inl ⟨by rfl, ?hyt6⟩) (by assumption) ?_; (case hyt6 => ((intro W hSW; (try dsimp only at hSW); obtain ⟨hSW, hSW2⟩ := hSW; go_simp); (all_goals with_reducible rfl))); (try simp only [Act.put, List.setIfInBounds_toArray, List.set_cons_zero, List.set_cons_succ])
  refine wpAnyH_take (i := 7) (oi := ⟨some 37, _, _, _, _, _⟩) (v := ?_) rfl (by kernel_rfl) (by kernel_rfl) (by kernel_rfl) (fun _ _ _ h => h) (Or.inl ⟨by rfl, ?hyt7⟩) (by assumption) ?_; (case hyt7 => ((intro W hSW; (try dsimp only at hSW); obtain ⟨hSW, hSW2⟩ := hSW; go_simp); (all_goals with_reducible rfl))); (try simp only [Act.put, List.setIfInBounds_toArray, List.set_cons_zero, List.set_cons_succ])
  refine wpAnyH_ready (rs := [8]) (by kernel_rfl) (by simp) ?_; refine AllReadyH.cons (o := ⟨some 38, _, _, _, _, _⟩) rfl (fun K hK => ?_) AllReadyH.nil; go_simp
  go_at_call 13
  refine (RP.out _).mono ?_; rintro e w5 ⟨rfl, hb5⟩
  have D5 : Below w2.heap.size w2 w5 := D0.trans hb5
  (try go_simp)
  refine hK.out _ _ (CV.out _ D5) (fun hHeld1 => ?_)
  clear hK K hHeld
  (try simp only [Act.put, List.setIfInBounds_toArray, List.set_cons_zero, List.set_cons_succ])
  refine wpAnyH_take (i := 9) (oi := ⟨some 39, _, _, _, _, _⟩) (v := ?_) rfl (by kernel_rfl) (by kernel_rfl) (by kernel_rfl) (fun _ _ _ h => h) (Or.inl ⟨by rfl, ?hyt9⟩) (by assumption) ?_; (case hyt9 => ((intro W hSW; (try dsimp only at hSW); obtain ⟨hSW, hSW2⟩ := hSW; go_simp); (all_goals with_reducible rfl))); (try simp only [Act.put, List.setIfInBounds_toArray, List.set_cons_zero, List.set_cons_succ])
  refine wpAnyH_take (i := 10) (oi := ⟨some 40, _, _, _, _, _⟩) (v := ?_) rfl (by kernel_rfl) (by kernel_rfl) (by kernel_rfl) (fun _ _ _ h => h) (Or.inl ⟨by rfl, ?hyt10⟩) (by assumption) ?_; (case hyt10 => ((intro W hSW; (try dsimp only at hSW); obtain ⟨hSW, hSW2⟩ := hSW; go_simp); (all_goals with_reducible rfl))); (try simp only [Act.put, List.setIfInBounds_toArray, List.set_cons_zero, List.set_cons_succ])
  refine wpAnyH_take (i := 11) (oi := ⟨some 4, _, _, _, _, _⟩) (v := ?_) rfl (by kernel_rfl) (by kernel_rfl) (by kernel_rfl) (fun _ _ _ h => h) (Or.inl ⟨by rfl, ?hyt11⟩) (by assumption) ?_; (case hyt11 => ((intro W hSW; (try dsimp only at hSW); obtain ⟨hSW, hSW2⟩ := hSW; go_simp); (all_goals with_reducible rfl))); (try simp only [Act.put, List.setIfInBounds_toArray, List.set_cons_zero, List.set_cons_succ])
  refine wpAnyH_done (by kernel_rfl) ?_ _
  go_wp2_with fail
  go_ret
  exact ⟨by simp, B2.trans (D5.mono B2.size)⟩
end Go.Proofs.YtegbjlimiephlaaDoor
