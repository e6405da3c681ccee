/- lookoutref04.Next's contract. -/
import Derived.Test.YtegbjlimiephlaaDoorFrRActs
namespace Go.Proofs.YtegbjlimiephlaaDoor
open Go.RowKit
set_option linter.unusedVariables false
set_option linter.unusedSimpArgs false
set_option maxHeartbeats 4000000
set_option maxRecDepth 20000
/-- an item of the reference's, laid -/
structure BoxI (w : World) (B : Nat) (s k : Int) (b : Value) : Prop where
  lt : B < w.heap.size
  c0 : w.cell? ⟨B, 0, none⟩ = some (.int .i64 s)
  c1 : w.cell? ⟨B, 1, none⟩ = some (.int .u8 k)
  c2 : w.cell? ⟨B, 2, none⟩ = some b
  f0 : w.frozen? ⟨B, 0, none⟩ = false
  f1 : w.frozen? ⟨B, 1, none⟩ = false
  f2 : w.frozen? ⟨B, 2, none⟩ = false
theorem BoxI.turn {T : Nat → Prop} {w w' : World} {B : Nat} {s k : Int} {b : Value} (h : BoxI w B s k b) (t : Turn T w w') (hT : ¬ T B) : BoxI w' B s k b :=
  ⟨Nat.lt_of_lt_of_le h.lt t.size, (t.cell (p := ⟨B, 0, none⟩) h.lt hT).trans h.c0, (t.cell (p := ⟨B, 1, none⟩) h.lt hT).trans h.c1, (t.cell (p := ⟨B, 2, none⟩) h.lt hT).trans h.c2,
    (t.frozen (p := ⟨B, 0, none⟩) h.lt hT).trans h.f0, (t.frozen (p := ⟨B, 1, none⟩) h.lt hT).trans h.f1, (t.frozen (p := ⟨B, 2, none⟩) h.lt hT).trans h.f2⟩
theorem BoxI.new (w : World) (s k : Int) (b : Value) (t : TypeId) : BoxI (w.alloc (.cells #[.int .i64 s, .int .u8 k, b] t)) w.heap.size s k b :=
  ⟨by simp, by simp [go_sem], by simp [go_sem], by simp [go_sem], by simp [go_sem], by simp [go_sem], by simp [go_sem]⟩
theorem BoxI.set {w : World} {B : Nat} {s k : Int} {b : Value} (h : BoxI w B s k b) (s' k' : Int) (b' : Value) :
    BoxI (((w.setCell ⟨B, 0, none⟩ (.int .i64 s')).setCell ⟨B, 1, none⟩ (.int .u8 k')).setCell ⟨B, 2, none⟩ b') B s' k' b' ∧ Turn (fun k => k = B) w (((w.setCell ⟨B, 0, none⟩ (.int .i64 s')).setCell ⟨B, 1, none⟩ (.int .u8 k')).setCell ⟨B, 2, none⟩ b') := by
  obtain ⟨lt, c0, c1, c2, f0, f1, f2⟩ := h
  exact ⟨⟨by simp; exact lt, by simp [go_sem, *], by simp [go_sem, *], by simp [go_sem, *], by simp [go_sem, *], by simp [go_sem, *], by simp [go_sem, *]⟩, (((Turn.refl (fun k => k = B) w).setCell _ (fun _ => rfl) _).setCell _ (fun _ => rfl) _).setCell _ (fun _ => rfl) _⟩
theorem next_r0 (rest : List UInt8) (s : Nat) (over : Bool) (q : Option Addr) (n c : Nat) (w : World) (hR : RowR w q n c []) (hq : ∀ x, q = some x → x.block < w.heap.size) :
    Calls Tryd.prog 18 #[.agg #[.string ⟨rest.toArray⟩, .int .i64 (s : Int), .slice q n c, .bool over]] w fun e w' => ∃ v', e = .returned (.tuple #[v', .agg #[.int .i64 0, .int .u8 0, .string ⟨#[]⟩], .bool false]) ∧ RD w' v' ⟨rest, s, [], over⟩ q w.heap.size ∧ Below w.heap.size w w' := by
  have hn := hR.length
  simp only [List.length_nil] at hn
  subst hn
  obtain ⟨W1, eW1⟩ : ∃ W, w.alloc (.cells #[.string ⟨rest.toArray⟩, .int .i64 (s : Int), .slice q 0 c, .bool over] 36) = W := ⟨_, rfl⟩
  have B1 : Below w.heap.size w W1 := by rw [← eW1]; exact (Below.refl _ _).alloc (Nat.le_refl _) _
  have X1 : BoxD W1 w.heap.size (.string ⟨rest.toArray⟩) (s : Int) (.slice q 0 c) over := by rw [← eW1]; exact BoxD.new w _ _ _ _ _
  have hz1 : W1.heap.size = w.heap.size + 1 := by rw [← eW1]; simp
  obtain ⟨W2, eW2⟩ : ∃ W, W1.alloc (.cells #[.string { data := #[] }, .int .i64 0, .slice none 0 0, .bool false] 36) = W := ⟨_, rfl⟩
  have B2 : Below w.heap.size w W2 := by rw [← eW2]; exact B1.alloc B1.size _
  have B12 : Below W1.heap.size W1 W2 := by rw [← eW2]; exact (Below.refl _ _).alloc (Nat.le_refl _) _
  have X2 : BoxD W2 w.heap.size (.string ⟨rest.toArray⟩) (s : Int) (.slice q 0 c) over := X1.turn (Turn.ofBelow (S := fun _ => False) B12 rfl) (fun h => h)
  have Y2 : BoxD W2 (w.heap.size + 1) (.string ⟨#[]⟩) 0 (.slice none 0 0) false := by rw [← eW2, ← hz1]; exact BoxD.new W1 _ _ _ _ _
  have hz2 : W2.heap.size = w.heap.size + 2 := by rw [← eW2]; simp [hz1]
  obtain ⟨W3, eW3⟩ : ∃ W, W2.alloc (.cells #[.int .i64 0, .int .u8 0, .string { data := #[] }] 46) = W := ⟨_, rfl⟩
  have B3 : Below w.heap.size w W3 := by rw [← eW3]; exact B2.alloc B2.size _
  have B23 : Below W2.heap.size W2 W3 := by rw [← eW3]; exact (Below.refl _ _).alloc (Nat.le_refl _) _
  have X3 := X2.turn (Turn.ofBelow (S := fun _ => False) B23 rfl) (fun h => h)
  have Y3 := Y2.turn (Turn.ofBelow (S := fun _ => False) B23 rfl) (fun h => h)
  have I3 : BoxI W3 (w.heap.size + 2) 0 0 (.string ⟨#[]⟩) := by rw [← eW3, ← hz2]; exact BoxI.new W2 _ _ _ _
  have R3 := hR.below B3
  obtain ⟨Z6, T6⟩ := Y3.set (.string ⟨rest.toArray⟩) (s : Int) (.slice q 0 c) over
  have I4 := I3.turn T6 (by omega)
  obtain ⟨I6, U6⟩ := I4.set 0 0 (.string ⟨#[]⟩)
  have Z7 := Z6.turn U6 (by omega)
  have c0 := X3.c0
  have c1 := X3.c1
  have c2 := X3.c2
  have c3 := X3.c3
  have d0 := Y3.c0
  have d1 := Y3.c1
  have d2 := Y3.c2
  have d3 := Y3.c3
  have g0 := Y3.f0
  have g1 := Y3.f1
  have g2 := Y3.f2
  have g3 := Y3.f3
  have k0 := I4.c0
  have k1 := I4.c1
  have k2 := I4.c2
  have h0 := I4.f0
  have h1 := I4.f1
  have h2 := I4.f2
  go_enter Tryd.func18, Tryd.ntmps18
  go_wp2_with fail
  have B6 := (B3.trans (T6.below B3.size (fun k hk e => by omega))).trans (U6.below (Nat.le_trans B3.size T6.size) (fun k hk e => by omega))
  have R6 := (R3.turn T6 (fun x hx e => by have := hq x hx; omega)).turn U6 (fun x hx e => by have := hq x hx; omega)
  have Q6 : ∀ x, q = some x → x.block < _ ∧ (q = q ∨ w.heap.size ≤ x.block) := fun x hx => ⟨Nat.lt_of_lt_of_le (hq x hx) B6.size, .inl rfl⟩
  clear I4
  generalize ((((((W3.setCell ⟨w.heap.size + 1, 0, none⟩ (.string ⟨rest.toArray⟩)).setCell ⟨w.heap.size + 1, 1, none⟩ (.int .i64 (s : Int))).setCell ⟨w.heap.size + 1, 2, none⟩ (.slice q 0 c)).setCell ⟨w.heap.size + 1, 3, none⟩ (.bool over)).setCell ⟨w.heap.size + 2, 0, none⟩ (.int .i64 0)).setCell ⟨w.heap.size + 2, 1, none⟩ (.int .u8 0)).setCell ⟨w.heap.size + 2, 2, none⟩ (.string ⟨#[]⟩) = w6 at *
  have l0 := Z7.c0
  have l1 := Z7.c1
  have l2 := Z7.c2
  have l3 := Z7.c3
  have n0 := I6.c0
  have n1 := I6.c1
  have n2 := I6.c2
  refine bodyPost_ret (v := .tuple #[.agg #[.string ⟨rest.toArray⟩, .int .i64 (s : Int), .slice q 0 c, .bool over], .agg #[.int .i64 0, .int .u8 0, .string ⟨#[]⟩], .bool false]) (by simp [results, Tryd.results18, go_sem, l0, l1, l2, l3, n0, n1, n2]) rfl ?_
  exact ⟨_, rfl, ⟨q, 0, c, rfl, R6, Q6⟩, B6⟩
theorem next_r1 (rest : List UInt8) (s : Nat) (x : It) (l : List It) (over : Bool) (q : Option Addr) (n c : Nat) (w : World) (hR : RowR w q n c (x :: l)) (hq : ∀ x, q = some x → x.block < w.heap.size) (hb : l.length ≤ 1000000) :
    Calls Tryd.prog 18 #[.agg #[.string ⟨rest.toArray⟩, .int .i64 (s : Int), .slice q n c, .bool over]] w fun e w' => ∃ v', e = .returned (.tuple #[v', .agg #[.int .i64 (x.skip : Int), .int .u8 (x.kind.toNat : Int), .string ⟨x.body.toArray⟩], .bool true]) ∧ RD w' v' ⟨rest, s, l, over⟩ q w.heap.size ∧ Below w.heap.size w w' := by
  have hn := hR.length
  obtain ⟨W1, eW1⟩ : ∃ W, w.alloc (.cells #[.string ⟨rest.toArray⟩, .int .i64 (s : Int), .slice q n c, .bool over] 36) = W := ⟨_, rfl⟩
  have B1 : Below w.heap.size w W1 := by rw [← eW1]; exact (Below.refl _ _).alloc (Nat.le_refl _) _
  have X1 : BoxD W1 w.heap.size (.string ⟨rest.toArray⟩) (s : Int) (.slice q n c) over := by rw [← eW1]; exact BoxD.new w _ _ _ _ _
  have hz1 : W1.heap.size = w.heap.size + 1 := by rw [← eW1]; simp
  obtain ⟨W2, eW2⟩ : ∃ W, W1.alloc (.cells #[.string { data := #[] }, .int .i64 0, .slice none 0 0, .bool false] 36) = W := ⟨_, rfl⟩
  have B2 : Below w.heap.size w W2 := by rw [← eW2]; exact B1.alloc B1.size _
  have B12 : Below W1.heap.size W1 W2 := by rw [← eW2]; exact (Below.refl _ _).alloc (Nat.le_refl _) _
  have X2 : BoxD W2 w.heap.size (.string ⟨rest.toArray⟩) (s : Int) (.slice q n c) over := X1.turn (Turn.ofBelow (S := fun _ => False) B12 rfl) (fun h => h)
  have Y2 : BoxD W2 (w.heap.size + 1) (.string ⟨#[]⟩) 0 (.slice none 0 0) false := by rw [← eW2, ← hz1]; exact BoxD.new W1 _ _ _ _ _
  have hz2 : W2.heap.size = w.heap.size + 2 := by rw [← eW2]; simp [hz1]
  obtain ⟨W3, eW3⟩ : ∃ W, W2.alloc (.cells #[.int .i64 0, .int .u8 0, .string { data := #[] }] 46) = W := ⟨_, rfl⟩
  have B3 : Below w.heap.size w W3 := by rw [← eW3]; exact B2.alloc B2.size _
  have B23 : Below W2.heap.size W2 W3 := by rw [← eW3]; exact (Below.refl _ _).alloc (Nat.le_refl _) _
  have X3 := X2.turn (Turn.ofBelow (S := fun _ => False) B23 rfl) (fun h => h)
  have Y3 := Y2.turn (Turn.ofBelow (S := fun _ => False) B23 rfl) (fun h => h)
  have I3 : BoxI W3 (w.heap.size + 2) 0 0 (.string ⟨#[]⟩) := by rw [← eW3, ← hz2]; exact BoxI.new W2 _ _ _ _
  have R3 := hR.below B3
  have hle := R3.le
  have hsm := R3.small
  unfold maxLen at hsm
  obtain ⟨b, off, rfl, hbl, hcell⟩ : ∃ b off, q = some ⟨b, off, none⟩ ∧ b < W3.heap.size ∧ ∀ i, i < n → W3.cell? ⟨b, off + i * 3, none⟩ = some (.int .i64 (((x :: l).getD i It.no).skip : Int)) ∧ W3.cell? ⟨b, off + i * 3 + 1, none⟩ = some (.int .u8 (((x :: l).getD i It.no).kind.toNat : Int)) ∧ W3.cell? ⟨b, off + i * 3 + 2, none⟩ = some (.string ⟨((x :: l).getD i It.no).body.toArray⟩) := by
    rcases R3.at_ with h0 | h0
    · simp at hn; omega
    · exact h0
  have hn0 : 0 < n := by rw [← hn]; simp
  obtain ⟨p0, p1, p2⟩ := hcell 0 hn0
  simp only [Nat.zero_mul, Nat.add_zero, List.getD_cons_zero] at p0 p1 p2
  have hn1 : (0 : Int) < (n : Int) := by omega
  have hn2 : ¬ n = 0 := by omega
  have hnc : (n : Int) ≤ (c : Int) := by omega
  have hn3 : (1 : Int) ≤ (n : Int) := by omega
  have hn4 : (1 : Int) ≤ (c : Int) := by omega
  have tok1 : True := trivial
  have hl : n - 1 = l.length := by rw [← hn]; simp
  replace hn := Lib.hid hn
  obtain ⟨W4, eW4⟩ : ∃ W, W3.alloc (.cells #[.int .i64 (x.skip : Int), .int .u8 (x.kind.toNat : Int), .string ⟨x.body.toArray⟩] 46) = W := ⟨_, rfl⟩
  have B4 : Below w.heap.size w W4 := by rw [← eW4]; exact B3.alloc B3.size _
  have B34 : Below W3.heap.size W3 W4 := by rw [← eW4]; exact (Below.refl _ _).alloc (Nat.le_refl _) _
  have X4 := X3.turn (Turn.ofBelow (S := fun _ => False) B34 rfl) (fun h => h)
  have Y4 := Y3.turn (Turn.ofBelow (S := fun _ => False) B34 rfl) (fun h => h)
  have I4 := I3.turn (Turn.ofBelow (S := fun _ => False) B34 rfl) (fun h => h)
  have J4 : BoxI W4 W3.heap.size (x.skip : Int) (x.kind.toNat : Int) (.string ⟨x.body.toArray⟩) := by rw [← eW4]; exact BoxI.new W3 _ _ _ _
  have hz3 : W3.heap.size = w.heap.size + 3 := by rw [← eW3]; simp [hz2]
  rw [hz3] at J4
  have R4 := R3.below B34
  have c0 := X3.c0
  have c1 := X3.c1
  have c2 := X3.c2
  have c3 := X3.c3
  have a2 := X4.c2
  obtain ⟨QQ, CC, hsl, RT⟩ : ∃ QQ CC, (c = 1 ∧ QQ = some ⟨b, off, none⟩ ∧ CC = 0 ∨ 1 < c ∧ QQ = some ⟨b, off + 3, none⟩ ∧ CC = c - 1) ∧ RowR W4 QQ l.length CC l := by
    by_cases hc : c = 1
    · exact ⟨_, 0, .inl ⟨hc, rfl, rfl⟩, ⟨rfl, by omega, by decide, fun e => (by cases e), .inl (by omega)⟩⟩
    · exact ⟨_, _, .inr ⟨by omega, rfl, rfl⟩, by have := R4.tail (by omega); rwa [hl] at this⟩
  rcases hsl with ⟨rfl, rfl, rfl⟩ | ⟨hc, rfl, rfl⟩
  · skip
    go_enter Tryd.func18, Tryd.ntmps18
    go_wp2_with (at_builtin; have _t := tok1; refine append_items 34 46 _ 32 infoRI rfl Tryd.underlying34 rfl _ _ rfl W4.heap.size (.slice none 0 0) [] rfl (OwnR.nil _ _ _) (some ⟨b, off, none⟩) l.length 0 l rfl RT (by simp; exact hb) (by decide) (Nat.le_refl _) ?_; intro v5 w5 hO5 hG5; clear tok1; rw [List.nil_append] at hO5; obtain ⟨q5, k5, e5, R5, hq5⟩ := hO5.row; subst e5; have T5 : Turn (fun _ => False) W4 w5 := Turn.ofGrown hG5 (fun k e => by cases e); have X5 := X4.turn T5 (fun h => h); have Y5 := Y4.turn T5 (fun h => h); have I5 := I4.turn T5 (fun h => h); have J5 := J4.turn T5 (fun h => h); have B5 : Below w.heap.size w w5 := B4.grown hG5 B4.size (fun k e => by cases e); have x2 := X5.c2; have y2 := X5.f2)
    have X6 := X5.setV (.slice q5 l.length k5)
    have T6 := (Turn.refl (fun k => k = w.heap.size) w5).setCell ⟨w.heap.size, 2, none⟩ (fun _ => rfl) (.slice q5 l.length k5)
    have Y6 := Y5.turn T6 (by omega)
    have I6 := I5.turn T6 (by omega)
    have J6 := J5.turn T6 (by omega)
    have B6 := B5.trans (T6.below B5.size (fun k hk e => by omega))
    have R6 := R5.turn T6 (fun x hx e => by have := (hq5 x hx).1; have := J4.lt; omega)
    have Q6 : ∀ x, q5 = some x → w.heap.size + 4 ≤ x.block ∧ x.block < (w5.setCell ⟨w.heap.size, 2, none⟩ (.slice q5 l.length k5)).heap.size := fun x hx => by
      have h1 := hq5 x hx
      have h2 := J4.lt
      have h3 := T6.size
      omega
    clear X5 Y5 I5 J5 B5 R5 hq5 x2 y2 a2 c0 c1 c2 c3
    generalize w5.setCell ⟨w.heap.size, 2, none⟩ (.slice q5 l.length k5) = w6 at *
    have a0 := X6.c0
    have a1 := X6.c1
    have a2 := X6.c2
    have a3 := X6.c3
    have b0 := J6.c0
    have b1 := J6.c1
    have b2 := J6.c2
    have d0 := Y6.c0
    have d1 := Y6.c1
    have d2 := Y6.c2
    have d3 := Y6.c3
    have g0 := Y6.f0
    have g1 := Y6.f1
    have g2 := Y6.f2
    have g3 := Y6.f3
    have i0 := I6.c0
    have i1 := I6.c1
    have i2 := I6.c2
    have j0 := I6.f0
    have j1 := I6.f1
    have j2 := I6.f2
    go_region
    all_goals
      go_wp2_with fail
      obtain ⟨Z7, T7⟩ := Y6.set (.string ⟨rest.toArray⟩) (s : Int) (.slice q5 l.length k5) over
      obtain ⟨I7, U7⟩ := (I6.turn T7 (by omega)).set (x.skip : Int) (x.kind.toNat : Int) (.string ⟨x.body.toArray⟩)
      have Z8 := Z7.turn U7 (by omega)
      have B7 := (B6.trans (T7.below B6.size (fun k hk e => by omega))).trans (U7.below (Nat.le_trans B6.size T7.size) (fun k hk e => by omega))
      have R7 := (R6.turn T7 (fun x hx e => by have := (Q6 x hx).1; omega)).turn U7 (fun x hx e => by have := (Q6 x hx).1; omega)
      have Q7 : ∀ x, q5 = some x → x.block < _ ∧ (q5 = some ⟨b, off, none⟩ ∨ w.heap.size ≤ x.block) := fun x hx => ⟨Nat.lt_of_lt_of_le (Q6 x hx).2 (Nat.le_trans T7.size U7.size), .inr (by have := (Q6 x hx).1; omega)⟩
      clear T7 U7 Z7
      generalize ((((((w6.setCell ⟨w.heap.size + 1, 0, none⟩ (.string ⟨rest.toArray⟩)).setCell ⟨w.heap.size + 1, 1, none⟩ (.int .i64 (s : Int))).setCell ⟨w.heap.size + 1, 2, none⟩ (.slice q5 l.length k5)).setCell ⟨w.heap.size + 1, 3, none⟩ (.bool over)).setCell ⟨w.heap.size + 2, 0, none⟩ (.int .i64 (x.skip : Int))).setCell ⟨w.heap.size + 2, 1, none⟩ (.int .u8 (x.kind.toNat : Int))).setCell ⟨w.heap.size + 2, 2, none⟩ (.string ⟨x.body.toArray⟩) = w7 at *
      have l0 := Z8.c0
      have l1 := Z8.c1
      have l2 := Z8.c2
      have l3 := Z8.c3
      have n0 := I7.c0
      have n1 := I7.c1
      have n2 := I7.c2
      refine bodyPost_ret (v := .tuple #[.agg #[.string ⟨rest.toArray⟩, .int .i64 (s : Int), .slice q5 l.length k5, .bool over], .agg #[.int .i64 (x.skip : Int), .int .u8 (x.kind.toNat : Int), .string ⟨x.body.toArray⟩], .bool true]) (by simp [results, Tryd.results18, go_sem, l0, l1, l2, l3, n0, n1, n2]) rfl ?_
      exact ⟨_, rfl, ⟨q5, _, k5, rfl, R7.turn ((Turn.refl (fun _ => False) w7).drew) (fun _ _ h => h), Q7⟩, B7.drew⟩
  · have hc1 : (1 : Int) < (c : Int) := by omega
    have hc2 : ¬ c = 1 := by omega
    go_enter Tryd.func18, Tryd.ntmps18
    go_wp2_with (at_builtin; have _t := tok1; refine append_items 34 46 _ 32 infoRI rfl Tryd.underlying34 rfl _ _ rfl W4.heap.size (.slice none 0 0) [] rfl (OwnR.nil _ _ _) (some ⟨b, off + 3, none⟩) l.length (c - 1) l rfl RT (by simp; exact hb) (by decide) (Nat.le_refl _) ?_; intro v5 w5 hO5 hG5; clear tok1; rw [List.nil_append] at hO5; obtain ⟨q5, k5, e5, R5, hq5⟩ := hO5.row; subst e5; have T5 : Turn (fun _ => False) W4 w5 := Turn.ofGrown hG5 (fun k e => by cases e); have X5 := X4.turn T5 (fun h => h); have Y5 := Y4.turn T5 (fun h => h); have I5 := I4.turn T5 (fun h => h); have J5 := J4.turn T5 (fun h => h); have B5 : Below w.heap.size w w5 := B4.grown hG5 B4.size (fun k e => by cases e); have x2 := X5.c2; have y2 := X5.f2)
    have X6 := X5.setV (.slice q5 l.length k5)
    have T6 := (Turn.refl (fun k => k = w.heap.size) w5).setCell ⟨w.heap.size, 2, none⟩ (fun _ => rfl) (.slice q5 l.length k5)
    have Y6 := Y5.turn T6 (by omega)
    have I6 := I5.turn T6 (by omega)
    have J6 := J5.turn T6 (by omega)
    have B6 := B5.trans (T6.below B5.size (fun k hk e => by omega))
    have R6 := R5.turn T6 (fun x hx e => by have := (hq5 x hx).1; have := J4.lt; omega)
    have Q6 : ∀ x, q5 = some x → w.heap.size + 4 ≤ x.block ∧ x.block < (w5.setCell ⟨w.heap.size, 2, none⟩ (.slice q5 l.length k5)).heap.size := fun x hx => by
      have h1 := hq5 x hx
      have h2 := J4.lt
      have h3 := T6.size
      omega
    clear X5 Y5 I5 J5 B5 R5 hq5 x2 y2 a2 c0 c1 c2 c3
    generalize w5.setCell ⟨w.heap.size, 2, none⟩ (.slice q5 l.length k5) = w6 at *
    have a0 := X6.c0
    have a1 := X6.c1
    have a2 := X6.c2
    have a3 := X6.c3
    have b0 := J6.c0
    have b1 := J6.c1
    have b2 := J6.c2
    have d0 := Y6.c0
    have d1 := Y6.c1
    have d2 := Y6.c2
    have d3 := Y6.c3
    have g0 := Y6.f0
    have g1 := Y6.f1
    have g2 := Y6.f2
    have g3 := Y6.f3
    have i0 := I6.c0
    have i1 := I6.c1
    have i2 := I6.c2
    have j0 := I6.f0
    have j1 := I6.f1
    have j2 := I6.f2
    go_region
    all_goals
      go_wp2_with fail
      obtain ⟨Z7, T7⟩ := Y6.set (.string ⟨rest.toArray⟩) (s : Int) (.slice q5 l.length k5) over
      obtain ⟨I7, U7⟩ := (I6.turn T7 (by omega)).set (x.skip : Int) (x.kind.toNat : Int) (.string ⟨x.body.toArray⟩)
      have Z8 := Z7.turn U7 (by omega)
      have B7 := (B6.trans (T7.below B6.size (fun k hk e => by omega))).trans (U7.below (Nat.le_trans B6.size T7.size) (fun k hk e => by omega))
      have R7 := (R6.turn T7 (fun x hx e => by have := (Q6 x hx).1; omega)).turn U7 (fun x hx e => by have := (Q6 x hx).1; omega)
      have Q7 : ∀ x, q5 = some x → x.block < _ ∧ (q5 = some ⟨b, off, none⟩ ∨ w.heap.size ≤ x.block) := fun x hx => ⟨Nat.lt_of_lt_of_le (Q6 x hx).2 (Nat.le_trans T7.size U7.size), .inr (by have := (Q6 x hx).1; omega)⟩
      clear T7 U7 Z7
      generalize ((((((w6.setCell ⟨w.heap.size + 1, 0, none⟩ (.string ⟨rest.toArray⟩)).setCell ⟨w.heap.size + 1, 1, none⟩ (.int .i64 (s : Int))).setCell ⟨w.heap.size + 1, 2, none⟩ (.slice q5 l.length k5)).setCell ⟨w.heap.size + 1, 3, none⟩ (.bool over)).setCell ⟨w.heap.size + 2, 0, none⟩ (.int .i64 (x.skip : Int))).setCell ⟨w.heap.size + 2, 1, none⟩ (.int .u8 (x.kind.toNat : Int))).setCell ⟨w.heap.size + 2, 2, none⟩ (.string ⟨x.body.toArray⟩) = w7 at *
      have l0 := Z8.c0
      have l1 := Z8.c1
      have l2 := Z8.c2
      have l3 := Z8.c3
      have n0 := I7.c0
      have n1 := I7.c1
      have n2 := I7.c2
      refine bodyPost_ret (v := .tuple #[.agg #[.string ⟨rest.toArray⟩, .int .i64 (s : Int), .slice q5 l.length k5, .bool over], .agg #[.int .i64 (x.skip : Int), .int .u8 (x.kind.toNat : Int), .string ⟨x.body.toArray⟩], .bool true]) (by simp [results, Tryd.results18, go_sem, l0, l1, l2, l3, n0, n1, n2]) rfl ?_
      exact ⟨_, rfl, ⟨q5, _, k5, rfl, R7.turn ((Turn.refl (fun _ => False) w7).drew) (fun _ _ h => h), Q7⟩, B7.drew⟩
end Go.Proofs.YtegbjlimiephlaaDoor
