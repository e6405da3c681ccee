/- The laws' awake. -/
import Derived.Test.YtdmpopdacbdnlaaDoorFrHeld
import Derived.Test.YtdmpopdacbdnlaaDoorFrPG
namespace Go.Proofs.YtdmpopdacbdnlaaDoor
open Go.RowKit
set_option linter.unusedVariables false
set_option linter.unusedSimpArgs false
set_option maxHeartbeats 4000000
set_option maxRecDepth 20000
theorem awake_any (w : World) (hT : Tab w) : Calls Tryd.prog 15 #[] w fun e w' => e = .returned (.bool true) ∧ Below w.heap.size w w' := by
  have hg0 := hT.lt
  go_enter Tryd.func15, Tryd.ntmps15
  go_wp2_with fail
  have A0 : Below w.heap.size w (w.alloc (.cells #[.int .u8 7] 5)) := (Below.refl _ _).alloc (Nat.le_refl _) _
  refine (put_any 3 (some ⟨w.heap.size, 0, none⟩) 1 1 [7] (w.alloc (.cells #[.int .u8 7] 5)) (RowB.newM w [7] _ _ _ rfl (by decide) 1 rfl) (by omega) (hT.below A0)).mono ?_; rintro e w1 ⟨v, rfl, hOv, hb1⟩
  have B1 : Below w.heap.size w w1 := A0.trans (hb1.mono (by simp))
  obtain ⟨qv, cv, rfl, hRv, _⟩ := hOv.row
  rw [show (Fr.put 3 [7]).length = 8 from rfl] at hRv ⊢
  clear hOv hb1
  obtain ⟨bv, ov, rfl⟩ : ∃ bv ov, qv = some ⟨bv, ov, none⟩ := by
    rcases hRv.at_ with h0 | ⟨b, o, e, _⟩
    · omega
    · exact ⟨b, o, e⟩
  have hbv : bv < w1.heap.size := by
    rcases hRv.at_ with h0 | ⟨b, o, e, hl, _⟩
    · omega
    · cases e; exact hl
  go_wp2_with fail
  refine (new_any w1).mono ?_; rintro e w2 ⟨g, rfl, hg, ⟨S, hD, hS⟩, hb2⟩
  have B2 := B1.trans (hb2.mono B1.size)
  have hRv2 := hRv.below hb2
  clear hRv
  go_wp2_with fail
  have A3 : Below w2.heap.size w2 (w2.alloc (.cells #[.int .u8 1, .int .u8 2] 5)) := (Below.refl _ _).alloc (Nat.le_refl _) _
  have B3 := B2.trans (A3.mono B2.size)
  have ntb : ∀ k, w.heap.size ≤ k → ¬ k = 2 := fun k hk e => by omega
  have hS1 : ∀ k, S k → w1.heap.size ≤ k := hS
  refine (give_any g S St.new _ (hD.below A3) (hT.below B3) (fun h => by have := hS1 _ h; have := B1.size; omega) (some ⟨w2.heap.size, 0, none⟩) 2 2 [1, 2] (RowB.newM w2 [1, 2] _ _ _ rfl (by decide) 2 rfl) (by simp [St.new])).mono ?_
  rw [give1]
  rintro e w4 ⟨rfl, S4, hD4, t4, n4⟩
  have z3 := A3.size
  have hS4 : ∀ k, S4 k → w1.heap.size ≤ k := fun k hk => (n4 k hk).elim (hS1 k) (fun h => by have := hb2.size; omega)
  have hRv4 := (hRv2.below A3).turn t4 (fun x hx h => by cases hx; have := hS1 _ h; simp at this; omega)
  have B4 := B3.trans (t4.below B3.size (fun k hk h => by have := hS1 k h; have := B1.size; omega))
  clear hRv2
  go_wp2_with fail
  refine (give_any g S4 _ _ hD4 (hT.below B4) (fun h => by have := hS4 _ h; have := B1.size; omega) _ 8 cv (Fr.put 3 [7]) hRv4 (by simp)).mono ?_
  rw [give2]
  rintro e w5 ⟨rfl, S5, hD5, t5, n5⟩
  have hS5 : ∀ k, S5 k → w1.heap.size ≤ k := fun k hk => (n5 k hk).elim (hS4 k) (fun h => by have := t4.size; have := hb2.size; omega)
  have hRv5 := hRv4.turn t5 (fun x hx h => by cases hx; have := hS4 _ h; simp at this; omega)
  have B5 := B4.trans (t5.below B4.size (fun k hk h => by have := hS4 k h; have := B1.size; omega))
  clear hRv4
  go_wp2_with fail
  refine (next_some g S5 _ _ hD5 ⟨2, 0, []⟩ _ rfl).mono ?_
  rintro e w6 ⟨q6, n6, c6, rfl, hR6, hq6, S6, hD6, t6, n6'⟩
  have hS6 : ∀ k, S6 k → w1.heap.size ≤ k := fun k hk => (n6' k hk).elim (hS5 k) (fun h => by have := t5.size; have := t4.size; have := hb2.size; omega)
  have hRv6 := hRv5.turn t6 (fun x hx h => by cases hx; have := hS5 _ h; simp at this; omega)
  have B6 := B5.trans (t6.below B5.size (fun k hk h => by have := hS5 k h; have := B1.size; omega))
  clear hRv5 hR6 hq6
  go_wp2_with fail
  have A7 : Below w6.heap.size w6 (w6.alloc (.cells #[.int .i64 2, .int .u8 0, .slice q6 n6 c6] 39)) := (Below.refl _ _).alloc (Nat.le_refl _) _
  have x6 : (w6.alloc (.cells #[.int .i64 2, .int .u8 0, .slice q6 n6 c6] 39)).cell? ⟨w6.heap.size, 0, none⟩ = some (.int .i64 2) := by simp [go_sem]
  have y6 : w6.heap.size < (w6.alloc (.cells #[.int .i64 2, .int .u8 0, .slice q6 n6 c6] 39)).heap.size := by simp
  have hD6' := hD6.below A7
  have hRv6' := hRv6.below A7
  have B6' := B6.trans (A7.mono B6.size)
  have k6 : ¬ S6 w6.heap.size := fun h => by have := hD6.lt _ h; omega
  refine (next_some g S6 _ _ hD6' ⟨0, 3, [7]⟩ _ rfl).mono ?_
  generalize w6.alloc (.cells #[.int .i64 2, .int .u8 0, .slice q6 n6 c6] 39) = W6 at *
  rintro e w7 ⟨q7, n7, c7, rfl, hR7, hq7, S7, hD7, t7, n7'⟩
  have x7 := (t7.cell (p := ⟨w6.heap.size, 0, none⟩) y6 k6).trans x6
  have y7 := Nat.lt_of_lt_of_le y6 t7.size
  have hRv7 := hRv6'.turn t7 (fun x hx h => by cases hx; have := hS6 _ h; simp at this; omega)
  have B7 := B6'.trans (t7.below B6'.size (fun k hk h => by have := hS6 k h; have := B1.size; omega))
  clear hRv6 hRv6' hD6 hD6' x6
  go_wp2_with fail
  have A8 : Below w7.heap.size w7 (w7.alloc (.cells #[.int .i64 0, .int .u8 3, .slice q7 n7 c7] 39)) := (Below.refl _ _).alloc (Nat.le_refl _) _
  have u0 : (w7.alloc (.cells #[.int .i64 0, .int .u8 3, .slice q7 n7 c7] 39)).cell? ⟨w7.heap.size, 0, none⟩ = some (.int .i64 0) := by simp [go_sem]
  have u1 : (w7.alloc (.cells #[.int .i64 0, .int .u8 3, .slice q7 n7 c7] 39)).cell? ⟨w7.heap.size, 1, none⟩ = some (.int .u8 3) := by simp [go_sem]
  have u2 : (w7.alloc (.cells #[.int .i64 0, .int .u8 3, .slice q7 n7 c7] 39)).cell? ⟨w7.heap.size, 2, none⟩ = some (.slice q7 n7 c7) := by simp [go_sem]
  have yu : w7.heap.size < (w7.alloc (.cells #[.int .i64 0, .int .u8 3, .slice q7 n7 c7] 39)).heap.size := by simp
  have hD8 := hD7.below A8
  have hR8 := hR7.below A8
  have hRv8 := hRv7.below A8
  have B8 := B7.trans (A8.mono B7.size)
  have x8 := (A8.cell (p := ⟨w6.heap.size, 0, none⟩) y7).trans x7
  have y8 := Nat.lt_of_lt_of_le y7 A8.size
  refine (next_empty g S7 _ _ hD8 rfl).mono ?_
  generalize w7.alloc (.cells #[.int .i64 0, .int .u8 3, .slice q7 n7 c7] 39) = W7 at *
  rintro e w9 ⟨rfl, hb9⟩
  have x9 := (hb9.cell (p := ⟨w6.heap.size, 0, none⟩) y8).trans x8
  have v0 := (hb9.cell (p := ⟨w7.heap.size, 0, none⟩) yu).trans u0
  have v1 := (hb9.cell (p := ⟨w7.heap.size, 1, none⟩) yu).trans u1
  have v2 := (hb9.cell (p := ⟨w7.heap.size, 2, none⟩) yu).trans u2
  have y9 := Nat.lt_of_lt_of_le y8 hb9.size
  have yv := Nat.lt_of_lt_of_le yu hb9.size
  have A9 : Below w9.heap.size w9 (w9.alloc (.cells #[.int .i64 0, .int .u8 0, .slice none 0 0] 39)) := (Below.refl _ _).alloc (Nat.le_refl _) _
  have hD9 := (hD8.below hb9).below A9
  have B9 := (B8.trans (hb9.mono B8.size)).trans (A9.mono (B8.trans (hb9.mono B8.size)).size)
  have cv9 := ((hR8.below hb9).below A9).conv (P := Tryd.prog) 22 9 5 Tryd.underlying22 Tryd.underlying5 Tryd.underlying9
  have hb0 : w9.cell? ⟨bv, ov, none⟩ = some (.int .u8 165) := by
    rcases (hRv8.below hb9).at_ with h0 | ⟨b, o, e, _, hc⟩
    · omega
    · cases e; exact hc 0 (by omega)
  have hbv9 : bv < w9.heap.size := by
    rcases (hRv8.below hb9).at_ with h0 | ⟨b, o, e, hl, _⟩
    · omega
    · cases e; exact hl
  clear hRv8 hR8 hD8 hRv7 hR7 hD7 u0 u1 u2 x7 x8
  go_wp2_with fail
  refine (held_any g S7 _ _ hD9).mono ?_; rintro e w' ⟨rfl, rfl⟩
  rw [show ((St.next (St.next ⟨[], 0, [⟨2, 0, []⟩, ⟨0, 3, [7]⟩], false⟩)).rest.length : Int) = 0 from rfl]
  go_wp2_with fail
  go_ret
  exact ⟨by simp, B9⟩
end Go.Proofs.YtdmpopdacbdnlaaDoor
