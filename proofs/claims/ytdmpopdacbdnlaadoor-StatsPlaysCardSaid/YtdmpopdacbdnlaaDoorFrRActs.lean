/- lookoutref04.Give, End: contracts. -/
import Derived.Test.YtdmpopdacbdnlaaDoorFrRPass
namespace Go.Proofs.YtdmpopdacbdnlaaDoor
open Go.RowKit
set_option linter.unusedVariables false
set_option linter.unusedSimpArgs false
set_option maxHeartbeats 4000000
set_option maxRecDepth 20000
/-- a decoder of the reference's, as a value; its items lie where they lay (at q0) or in blocks from B on -/
def RD (w : World) (v : Value) (d : St) (q0 : Option Addr) (B : Nat) : Prop := ∃ q n c, v = .agg #[.string ⟨d.rest.toArray⟩, .int .i64 (d.skips : Int), .slice q n c, .bool d.over] ∧ RowR w q n c d.found ∧ ∀ x, q = some x → x.block < w.heap.size ∧ (q = q0 ∨ B ≤ x.block)
theorem give_r (d : St) (b : List UInt8) (q : Option Addr) (n c : Nat) (w : World) (hR : RowR w q n c d.found) (hq : ∀ x, q = some x → x.block < w.heap.size) (hb : d.found.length + d.skips + 2 * (d.rest.length + b.length) ≤ 1000000) :
    Calls Tryd.prog 20 #[.agg #[.string ⟨d.rest.toArray⟩, .int .i64 (d.skips : Int), .slice q n c, .bool d.over], .string ⟨b.toArray⟩] w fun e w' => ∃ v', e = .returned v' ∧ RD w' v' (d.give b) q w.heap.size ∧ Below w.heap.size w w' := by
  obtain ⟨rest, s, f, over⟩ := d
  simp only at hR hb ⊢
  obtain ⟨W1, eW1⟩ : ∃ W, w.alloc (.cells #[.string ⟨rest.toArray⟩, .int .i64 (s : Int), .slice q n c, .bool over] 29) = W := ⟨_, rfl⟩
  have B1 : Below w.heap.size w W1 := by rw [← eW1]; exact (Below.refl _ _).alloc (Nat.le_refl _) _
  have X1 : BoxD W1 w.heap.size (.string ⟨rest.toArray⟩) (s : Int) (.slice q n c) over := by rw [← eW1]; exact BoxD.new w _ _ _ _ _
  have hz1 : W1.heap.size = w.heap.size + 1 := by rw [← eW1]; simp
  obtain ⟨W2, eW2⟩ : ∃ W, W1.alloc (.cells #[.string { data := #[] }, .int .i64 0, .slice none 0 0, .bool false] 29) = W := ⟨_, rfl⟩
  have B2 : Below w.heap.size w W2 := by rw [← eW2]; exact B1.alloc B1.size _
  have B12 : Below W1.heap.size W1 W2 := by rw [← eW2]; exact (Below.refl _ _).alloc (Nat.le_refl _) _
  have X2 : BoxD W2 w.heap.size (.string ⟨rest.toArray⟩) (s : Int) (.slice q n c) over := X1.turn (Turn.ofBelow (S := fun _ => False) B12 rfl) (fun h => h)
  have Y2 : BoxD W2 (w.heap.size + 1) (.string ⟨#[]⟩) 0 (.slice none 0 0) false := by rw [← eW2, ← hz1]; exact BoxD.new W1 _ _ _ _ _
  have R2 := hR.below B2
  have c0 := X2.c0
  have c1 := X2.c1
  have c2 := X2.c2
  have c3 := X2.c3
  have d0 := Y2.c0
  have d1 := Y2.c1
  have d2 := Y2.c2
  have d3 := Y2.c3
  have g0 := Y2.f0
  have g1 := Y2.f1
  have g2 := Y2.f2
  have g3 := Y2.f3
  have g4 := X2.f0
  cases over
  · have hg : St.give ⟨rest, s, f, false⟩ b = ⟨(Fr.pass false (rest ++ b) s f).1, (Fr.pass false (rest ++ b) s f).2.1, (Fr.pass false (rest ++ b) s f).2.2, false⟩ := rfl
    rw [hg]
    have cat := ba_app2 rest b
    have X3 := X2.setR (.string ⟨(rest ++ b).toArray⟩)
    have T3 := (Turn.refl (fun k => k = w.heap.size) W2).setCell ⟨w.heap.size, 0, none⟩ (fun _ => rfl) (.string ⟨(rest ++ b).toArray⟩)
    have R3 := R2.turn T3 (fun x hx e => by have := hq x hx; omega)
    have Y3 := Y2.turn T3 (by omega)
    have B3 := B2.trans (T3.below B2.size (fun k hk e => by omega))
    have hb2 : f.length + s + 2 * (rest ++ b).length ≤ 1000000 := by rw [List.length_append]; exact hb
    replace hg := Lib.hid hg
    generalize rest ++ b = r at *
    have e1 := X3.c0
    have e2 := X3.c1
    have e3 := X3.c2
    have e4 := X3.c3
    have hq3 : ∀ x, q = some x → x.block < (W2.setCell ⟨w.heap.size, 0, none⟩ (.string ⟨r.toArray⟩)).heap.size := fun x hx => by have := hq x hx; have := B3.size; omega
    have PR := pass_rany r s f false q n c _ R3 hq3 hb2
    obtain ⟨Z, hZ⟩ : ∃ Z, Fr.pass false r s f = Z := ⟨_, rfl⟩
    rw [hZ] at PR
    rw [hZ]
    replace PR := Lib.hid PR
    replace hZ := Lib.hid hZ
    go_enter Tryd.func20, Tryd.ntmps20
    go_wp2_with fail
    refine PR.out.mono ?_; rintro e w4 ⟨q4, n4, k4, rfl, R4, hq4, hb4⟩
    have Y4 := Y3.turn (Turn.ofBelow (S := fun _ => False) hb4 rfl) (fun h => h)
    have B4 := B3.trans (hb4.mono B3.size)
    have m0 := Y4.c0
    have m1 := Y4.c1
    have m2 := Y4.c2
    have m3 := Y4.c3
    have j0 := Y4.f0
    have j1 := Y4.f1
    have j2 := Y4.f2
    have j3 := Y4.f3
    go_wp2_with fail
    obtain ⟨Z6, T6⟩ := Y4.set (.string ⟨Z.1.toArray⟩) (Z.2.1 : Int) (.slice q4 n4 k4) false
    have B6 := B4.trans (T6.below B4.size (fun k hk e => by omega))
    have hq5 : ∀ x, q4 = some x → x.block ≠ w.heap.size + 1 := fun x hx => by
      rcases (hq4 x hx).2 with e | e
      · have := hq x (e ▸ hx); omega
      · have := Y3.lt; omega
    have R6 := R4.turn T6 (fun x hx e => hq5 x hx e)
    have Q6 : ∀ x, q4 = some x → x.block < _ ∧ (q4 = q ∨ w.heap.size ≤ x.block) := fun x hx => ⟨Nat.lt_of_lt_of_le (hq4 x hx).1 T6.size, (hq4 x hx).2.imp id (fun h => Nat.le_trans B3.size h)⟩
    generalize (((w4.setCell ⟨w.heap.size + 1, 0, none⟩ (.string ⟨Z.1.toArray⟩)).setCell ⟨w.heap.size + 1, 1, none⟩ (.int .i64 (Z.2.1 : Int))).setCell ⟨w.heap.size + 1, 2, none⟩ (.slice q4 n4 k4)).setCell ⟨w.heap.size + 1, 3, none⟩ (.bool false) = w6 at *
    have l0 := Z6.c0
    have l1 := Z6.c1
    have l2 := Z6.c2
    have l3 := Z6.c3
    refine bodyPost_ret (v := .agg #[.string ⟨Z.1.toArray⟩, .int .i64 (Z.2.1 : Int), .slice q4 n4 k4, .bool false]) (by simp [results, Tryd.results20, go_sem, l0, l1, l2, l3]) rfl ?_
    exact ⟨_, rfl, ⟨q4, n4, k4, rfl, R6, Q6⟩, B6⟩
  · have hg : St.give ⟨rest, s, f, true⟩ b = ⟨rest, s, f, true⟩ := rfl
    rw [hg]
    replace hg := Lib.hid hg
    go_enter Tryd.func20, Tryd.ntmps20
    go_wp2_with fail
    obtain ⟨Z6, T6⟩ := Y2.set (.string ⟨rest.toArray⟩) (s : Int) (.slice q n c) true
    have B6 := B2.trans (T6.below B2.size (fun k hk e => by omega))
    have R6 := R2.turn T6 (fun x hx e => by have := hq x hx; omega)
    have Q6 : ∀ x, q = some x → x.block < _ ∧ (q = q ∨ w.heap.size ≤ x.block) := fun x hx => ⟨Nat.lt_of_lt_of_le (hq x hx) (Nat.le_trans B2.size T6.size), .inl rfl⟩
    generalize (((W2.setCell ⟨w.heap.size + 1, 0, none⟩ (.string ⟨rest.toArray⟩)).setCell ⟨w.heap.size + 1, 1, none⟩ (.int .i64 (s : Int))).setCell ⟨w.heap.size + 1, 2, none⟩ (.slice q n c)).setCell ⟨w.heap.size + 1, 3, none⟩ (.bool true) = w6 at *
    have l0 := Z6.c0
    have l1 := Z6.c1
    have l2 := Z6.c2
    have l3 := Z6.c3
    refine bodyPost_ret (v := .agg #[.string ⟨rest.toArray⟩, .int .i64 (s : Int), .slice q n c, .bool true]) (by simp [results, Tryd.results20, go_sem, l0, l1, l2, l3]) rfl ?_
    exact ⟨_, rfl, ⟨q, n, c, rfl, R6, Q6⟩, B6⟩
theorem end_r (d : St) (q : Option Addr) (n c : Nat) (w : World) (hR : RowR w q n c d.found) (hq : ∀ x, q = some x → x.block < w.heap.size) (hb : d.found.length + d.skips + 2 * d.rest.length ≤ 1000000) :
    Calls Tryd.prog 19 #[.agg #[.string ⟨d.rest.toArray⟩, .int .i64 (d.skips : Int), .slice q n c, .bool d.over]] w fun e w' => ∃ v', e = .returned v' ∧ RD w' v' d.fin q w.heap.size ∧ Below w.heap.size w w' := by
  obtain ⟨rest, s, f, over⟩ := d
  simp only at hR hb ⊢
  obtain ⟨W1, eW1⟩ : ∃ W, w.alloc (.cells #[.string ⟨rest.toArray⟩, .int .i64 (s : Int), .slice q n c, .bool over] 29) = W := ⟨_, rfl⟩
  have B1 : Below w.heap.size w W1 := by rw [← eW1]; exact (Below.refl _ _).alloc (Nat.le_refl _) _
  have X1 : BoxD W1 w.heap.size (.string ⟨rest.toArray⟩) (s : Int) (.slice q n c) over := by rw [← eW1]; exact BoxD.new w _ _ _ _ _
  have hz1 : W1.heap.size = w.heap.size + 1 := by rw [← eW1]; simp
  obtain ⟨W2, eW2⟩ : ∃ W, W1.alloc (.cells #[.string { data := #[] }, .int .i64 0, .slice none 0 0, .bool false] 29) = W := ⟨_, rfl⟩
  have B2 : Below w.heap.size w W2 := by rw [← eW2]; exact B1.alloc B1.size _
  have B12 : Below W1.heap.size W1 W2 := by rw [← eW2]; exact (Below.refl _ _).alloc (Nat.le_refl _) _
  have X2 : BoxD W2 w.heap.size (.string ⟨rest.toArray⟩) (s : Int) (.slice q n c) over := X1.turn (Turn.ofBelow (S := fun _ => False) B12 rfl) (fun h => h)
  have Y2 : BoxD W2 (w.heap.size + 1) (.string ⟨#[]⟩) 0 (.slice none 0 0) false := by rw [← eW2, ← hz1]; exact BoxD.new W1 _ _ _ _ _
  have R2 := hR.below B2
  have c0 := X2.c0
  have c1 := X2.c1
  have c2 := X2.c2
  have c3 := X2.c3
  have d0 := Y2.c0
  have d1 := Y2.c1
  have d2 := Y2.c2
  have d3 := Y2.c3
  have g0 := Y2.f0
  have g1 := Y2.f1
  have g2 := Y2.f2
  have g3 := Y2.f3
  have g4 := X2.f0
  have g5 := X2.f3
  cases over
  · have hg : St.fin ⟨rest, s, f, false⟩ = ⟨(Fr.pass true rest s f).1, 0, Fr.tell (Fr.pass true rest s f).2.1 (Fr.pass true rest s f).2.2, true⟩ := rfl
    rw [hg]
    have hb2 : f.length + s + 2 * rest.length ≤ 1000000 := hb
    replace hg := Lib.hid hg
    have X3 := X2.setO true
    have T3 := (Turn.refl (fun k => k = w.heap.size) W2).setCell ⟨w.heap.size, 3, none⟩ (fun _ => rfl) (.bool true)
    have R3 := R2.turn T3 (fun x hx e => by have := hq x hx; omega)
    have Y3 := Y2.turn T3 (by omega)
    have B3 := B2.trans (T3.below B2.size (fun k hk e => by omega))
    have e1 := X3.c0
    have e2 := X3.c1
    have e3 := X3.c2
    have e4 := X3.c3
    have hq3 : ∀ x, q = some x → x.block < (W2.setCell ⟨w.heap.size, 3, none⟩ (.bool true)).heap.size := fun x hx => by have := hq x hx; have := B3.size; omega
    have PR := pass_rany rest s f true q n c _ R3 hq3 hb2
    have PB := Fr.pass_bound true rest s f
    obtain ⟨Z, hZ⟩ : ∃ Z, Fr.pass true rest s f = Z := ⟨_, rfl⟩
    rw [hZ] at PR PB
    rw [hZ]
    replace PR := Lib.hid PR
    replace hZ := Lib.hid hZ
    go_enter Tryd.func19, Tryd.ntmps19
    go_wp2_with fail
    refine PR.out.mono ?_; rintro e w4 ⟨q4, n4, k4, rfl, R4, hq4, hb4⟩
    have Y4 := Y3.turn (Turn.ofBelow (S := fun _ => False) hb4 rfl) (fun h => h)
    have B4 := B3.trans (hb4.mono B3.size)
    go_wp2_with fail
    refine (told_any Z.1 Z.2.1 Z.2.2 true q4 n4 k4 w4 R4 (by omega)).mono ?_; rintro e w5 ⟨⟨v5, rfl, O5⟩, hb5⟩
    obtain ⟨q5, k5, rfl, R5, hq5⟩ := O5.row
    have Y5 := Y4.turn (Turn.ofBelow (S := fun _ => False) hb5 rfl) (fun h => h)
    have B5 := B4.trans (hb5.mono B4.size)
    have L4 := Y4.lt
    have m0 := Y5.c0
    have m1 := Y5.c1
    have m2 := Y5.c2
    have m3 := Y5.c3
    have j0 := Y5.f0
    have j1 := Y5.f1
    have j2 := Y5.f2
    have j3 := Y5.f3
    obtain ⟨LL, hLL⟩ : ∃ LL, (Fr.tell Z.2.1 Z.2.2).length = LL := ⟨_, rfl⟩
    rw [hLL] at R5
    go_wp2_with fail
    obtain ⟨Z6, T6⟩ := Y5.set (.string ⟨Z.1.toArray⟩) 0 (.slice q5 LL k5) true
    have B6 := B5.trans (T6.below B5.size (fun k hk e => by omega))
    have R6 := R5.turn T6 (fun x hx e => by have := (hq5 x hx).1; omega)
    have Q6 : ∀ x, q5 = some x → x.block < _ ∧ (q5 = q ∨ w.heap.size ≤ x.block) := fun x hx => ⟨Nat.lt_of_lt_of_le (hq5 x hx).2 T6.size, .inr (Nat.le_trans B4.size (hq5 x hx).1)⟩
    generalize (((w5.setCell ⟨w.heap.size + 1, 0, none⟩ (.string ⟨Z.1.toArray⟩)).setCell ⟨w.heap.size + 1, 1, none⟩ (.int .i64 0)).setCell ⟨w.heap.size + 1, 2, none⟩ (.slice q5 LL k5)).setCell ⟨w.heap.size + 1, 3, none⟩ (.bool true) = w6 at *
    have l0 := Z6.c0
    have l1 := Z6.c1
    have l2 := Z6.c2
    have l3 := Z6.c3
    refine bodyPost_ret (v := .agg #[.string ⟨Z.1.toArray⟩, .int .i64 0, .slice q5 LL k5, .bool true]) (by simp [results, Tryd.results19, go_sem, l0, l1, l2, l3]) rfl ?_
    exact ⟨_, rfl, ⟨q5, LL, k5, rfl, R6, Q6⟩, B6⟩
  · have hg : St.fin ⟨rest, s, f, true⟩ = ⟨rest, s, f, true⟩ := rfl
    rw [hg]
    replace hg := Lib.hid hg
    go_enter Tryd.func19, Tryd.ntmps19
    go_wp2_with fail
    obtain ⟨Z6, T6⟩ := Y2.set (.string ⟨rest.toArray⟩) (s : Int) (.slice q n c) true
    have B6 := B2.trans (T6.below B2.size (fun k hk e => by omega))
    have R6 := R2.turn T6 (fun x hx e => by have := hq x hx; omega)
    have Q6 : ∀ x, q = some x → x.block < _ ∧ (q = q ∨ w.heap.size ≤ x.block) := fun x hx => ⟨Nat.lt_of_lt_of_le (hq x hx) (Nat.le_trans B2.size T6.size), .inl rfl⟩
    generalize (((W2.setCell ⟨w.heap.size + 1, 0, none⟩ (.string ⟨rest.toArray⟩)).setCell ⟨w.heap.size + 1, 1, none⟩ (.int .i64 (s : Int))).setCell ⟨w.heap.size + 1, 2, none⟩ (.slice q n c)).setCell ⟨w.heap.size + 1, 3, none⟩ (.bool true) = w6 at *
    have l0 := Z6.c0
    have l1 := Z6.c1
    have l2 := Z6.c2
    have l3 := Z6.c3
    refine bodyPost_ret (v := .agg #[.string ⟨rest.toArray⟩, .int .i64 (s : Int), .slice q n c, .bool true]) (by simp [results, Tryd.results19, go_sem, l0, l1, l2, l3]) rfl ?_
    exact ⟨_, rfl, ⟨q, n, c, rfl, R6, Q6⟩, B6⟩
end Go.Proofs.YtdmpopdacbdnlaaDoor
