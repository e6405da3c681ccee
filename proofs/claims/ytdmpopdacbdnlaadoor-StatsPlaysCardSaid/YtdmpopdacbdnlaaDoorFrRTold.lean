/- lookoutref04.told's contract. -/
import Derived.Test.YtdmpopdacbdnlaaDoorFrRSize
import Derived.Test.YtdmpopdacbdnlaaDoorFrG
namespace Go.Proofs.YtdmpopdacbdnlaaDoor
open Go.RowKit
set_option linter.unusedVariables false
set_option linter.unusedSimpArgs false
set_option maxHeartbeats 4000000
set_option maxRecDepth 20000
/-- a decoder of the reference's, laid -/
structure BoxD (w : World) (B : Nat) (r : Value) (s : Int) (v : Value) (o : Bool) : Prop where
  lt : B < w.heap.size
  c0 : w.cell? ⟨B, 0, none⟩ = some r
  c1 : w.cell? ⟨B, 1, none⟩ = some (.int .i64 s)
  c2 : w.cell? ⟨B, 2, none⟩ = some v
  c3 : w.cell? ⟨B, 3, none⟩ = some (.bool o)
  f0 : w.frozen? ⟨B, 0, none⟩ = false
  f1 : w.frozen? ⟨B, 1, none⟩ = false
  f2 : w.frozen? ⟨B, 2, none⟩ = false
  f3 : w.frozen? ⟨B, 3, none⟩ = false
theorem BoxD.turn {T : Nat → Prop} {w w' : World} {B : Nat} {r : Value} {s : Int} {v : Value} {o : Bool} (h : BoxD w B r s v o) (t : Turn T w w') (hT : ¬ T B) : BoxD w' B r s v o :=
  ⟨Nat.lt_of_lt_of_le h.lt t.size, (t.cell (p := ⟨B, 0, none⟩) h.lt hT).trans h.c0, (t.cell (p := ⟨B, 1, none⟩) h.lt hT).trans h.c1, (t.cell (p := ⟨B, 2, none⟩) h.lt hT).trans h.c2, (t.cell (p := ⟨B, 3, none⟩) h.lt hT).trans h.c3,
    (t.frozen (p := ⟨B, 0, none⟩) h.lt hT).trans h.f0, (t.frozen (p := ⟨B, 1, none⟩) h.lt hT).trans h.f1, (t.frozen (p := ⟨B, 2, none⟩) h.lt hT).trans h.f2, (t.frozen (p := ⟨B, 3, none⟩) h.lt hT).trans h.f3⟩
theorem BoxD.new (w : World) (r : Value) (s : Int) (v : Value) (o : Bool) (t : TypeId) : BoxD (w.alloc (.cells #[r, .int .i64 s, v, .bool o] t)) w.heap.size r s v o :=
  ⟨by simp, by simp [go_sem], by simp [go_sem], by simp [go_sem], by simp [go_sem], by simp [go_sem], by simp [go_sem], by simp [go_sem], by simp [go_sem]⟩
theorem OwnR.low {t : TypeId} {base b2 : Nat} {w : World} {v : Value} {l : List It} (h : OwnR t base w v l) (hb : b2 ≤ base) : OwnR t b2 w v l :=
  ⟨⟨h.owns.1, h.owns.2.imp id (fun ⟨g, c, u, h1, h2, h3⟩ => ⟨g, c, u, h1, Nat.le_trans hb h2, h3⟩)⟩, h.small⟩
theorem OwnR.kept2 {t : TypeId} {base : Nat} {w w' : World} {v : Value} {l : List It} (h : OwnR t base w v l) {B : Nat} (hT : Turn (fun k => k = B) w w') (hB : B < base) : OwnR t base w' v l :=
  h.kept hT.grown (by
    cases e : v.ownBlock with
    | none => exact .inl rfl
    | some g => exact .inr (fun e2 => by
        have := (h.owns.lt g e).1
        simp only [Option.some.injEq] at e2
        omega))
theorem BoxD.set {w : World} {B : Nat} {r : Value} {s : Int} {v : Value} {o : Bool} (h : BoxD w B r s v o) (r' : Value) (s' : Int) (v' : Value) (o' : Bool) :
    BoxD ((((w.setCell ⟨B, 0, none⟩ r').setCell ⟨B, 1, none⟩ (.int .i64 s')).setCell ⟨B, 2, none⟩ v').setCell ⟨B, 3, none⟩ (.bool o')) B r' s' v' o' ∧ Turn (fun k => k = B) w ((((w.setCell ⟨B, 0, none⟩ r').setCell ⟨B, 1, none⟩ (.int .i64 s')).setCell ⟨B, 2, none⟩ v').setCell ⟨B, 3, none⟩ (.bool o')) := by
  obtain ⟨lt, c0, c1, c2, c3, f0, f1, f2, f3⟩ := h
  exact ⟨⟨by simp; exact lt, by simp [go_sem, *], by simp [go_sem, *], by simp [go_sem, *], by simp [go_sem, *], by simp [go_sem, *], by simp [go_sem, *], by simp [go_sem, *], by simp [go_sem, *]⟩, ((((Turn.refl (fun k => k = B) w).setCell _ (fun _ => rfl) _).setCell _ (fun _ => rfl) _).setCell _ (fun _ => rfl) _).setCell _ (fun _ => rfl) _⟩
theorem told_any (rest : List UInt8) (s : Nat) (f : List It) (over : Bool) (q : Option Addr) (n c : Nat) (w : World) (hR : RowR w q n c f) (hb : f.length + s ≤ 1000000) :
    Calls Tryd.prog 68 #[.agg #[.string ⟨rest.toArray⟩, .int .i64 (s : Int), .slice q n c, .bool over]] w fun e w' => (∃ v, e = .returned (.agg #[.string ⟨rest.toArray⟩, .int .i64 0, v, .bool over]) ∧ OwnR 43 w.heap.size w' v (Fr.tell s f)) ∧ Below w.heap.size w w' := by
  have hl := hR.length
  have tok1 : True := trivial
  obtain ⟨W1, eW1⟩ : ∃ W, w.alloc (.cells #[.string ⟨rest.toArray⟩, .int .i64 (s : Int), .slice q n c, .bool over] 29) = W := ⟨_, rfl⟩
  have B1 : Below w.heap.size w W1 := by rw [← eW1]; exact (Below.refl _ _).alloc (Nat.le_refl _) _
  have X1 : BoxD W1 w.heap.size (.string ⟨rest.toArray⟩) (s : Int) (.slice q n c) over := by rw [← eW1]; exact BoxD.new w _ _ _ _ _
  have hz1 : W1.heap.size = w.heap.size + 1 := by rw [← eW1]; simp
  obtain ⟨W2, eW2⟩ : ∃ W, W1.alloc (.cells #[.string { data := #[] }, .int .i64 0, .slice none 0 0, .bool false] 29) = W := ⟨_, rfl⟩
  have B2 : Below w.heap.size w W2 := by rw [← eW2]; exact B1.alloc B1.size _
  have B12 : Below W1.heap.size W1 W2 := by rw [← eW2]; exact (Below.refl _ _).alloc (Nat.le_refl _) _
  have X2 : BoxD W2 w.heap.size (.string ⟨rest.toArray⟩) (s : Int) (.slice q n c) over := X1.turn (Turn.ofBelow (S := fun _ => False) B12 rfl) (fun h => h)
  have Y2 : BoxD W2 (w.heap.size + 1) (.string ⟨#[]⟩) 0 (.slice none 0 0) false := by rw [← eW2, ← hz1]; exact BoxD.new W1 _ _ _ _ _
  have R2 : RowR W2 q n c f := hR.below B2
  have c0 := X2.c0
  have c1 := X2.c1
  have c2 := X2.c2
  have c3 := X2.c3
  by_cases h0 : 0 < s
  · have hs0 : (0 : Int) < (s : Int) := by omega
    have tok2 : True := trivial
    have htl : Fr.tell s f = f ++ [⟨s, 0, []⟩] := by unfold Fr.tell; rw [if_pos h0]
    rw [htl]
    have hb' : f.length + 1 ≤ 1000000 := by omega
    replace hl := Lib.hid hl
    replace htl := Lib.hid htl
    clear h0
    go_enter Tryd.func68, Tryd.ntmps68
    go_wp2_with (first
      | (at_builtin; have _t := tok1; refine append_items 27 43 _ 32 infoRI rfl Tryd.underlying27 rfl _ _ rfl W2.heap.size (.slice none 0 0) [] rfl (OwnR.nil _ _ _) q n c f rfl (by first | exact R2 | (rw [eW1, eW2]; exact R2)) (by have := hl.out; simp; omega) (by decide) (by first | exact Nat.le_refl _ | (rw [eW1, eW2]; exact Nat.le_refl _)) ?_; intro v3 w3 hO3 hG3; clear tok1; rw [List.nil_append] at hO3; obtain ⟨q3, k3, e3, _⟩ := hO3.row; subst e3; have hG3' : W2.grownBy w3 (Value.slice none 0 0).ownBlock := (by first | exact hG3 | (rw [← eW2, ← eW1]; exact hG3)); have T3 : Turn (fun _ => False) W2 w3 := Turn.ofGrown hG3' (fun k e => by cases e); have X3 := X2.turn T3 (fun h => h); have Y3 := Y2.turn T3 (fun h => h); have B3 : Below w.heap.size w w3 := B2.grown hG3' B2.size (fun k e => by cases e); have c0 := X3.c0; have c1 := X3.c1; have c3 := X3.c3; have d0 := Y3.c0; have d1 := Y3.c1; have d2 := Y3.c2; have d3 := Y3.c3; have g0 := Y3.f0; have g1 := Y3.f1; have g2 := Y3.f2; have g3 := Y3.f3; have B34 := Lib.hid ((Below.refl w3.heap.size w3).alloc (Nat.le_refl _) (.cells #[.int .i64 (s : Int), .int .u8 0, .string ⟨#[]⟩] 43)); have B4 := Lib.hid (B3.alloc B3.size (.cells #[.int .i64 (s : Int), .int .u8 0, .string ⟨#[]⟩] 43)); have R34 := Lib.hid (RowR.one w3 ⟨s, 0, []⟩ 43); have T34 := Turn.ofBelow (S := fun _ => False) B34.out rfl; have X4 := Lib.hid (X3.turn T34 (fun h => h)); have Y4 := Lib.hid (Y3.turn T34 (fun h => h)))
      | (at_builtin; have _t := tok2; refine append_items 27 43 _ 32 infoRI rfl Tryd.underlying27 rfl _ _ rfl W2.heap.size (.slice q3 f.length k3) f rfl (hO3.below B34.out) (some ⟨w3.heap.size, 0, none⟩) 1 1 [⟨s, 0, []⟩] rfl R34.out (by simp; omega) (by decide) (Nat.le_trans T3.size B34.out.size) ?_; intro v5 w5 hO5 hG5; clear tok2; obtain ⟨q5, k5, e5, _⟩ := hO5.row; subst e5; have B5 : Below w.heap.size w w5 := B4.out.grown hG5 B4.out.size (fun x hx => Nat.le_trans B2.size (hO3.owns.lt x hx).1); have T5 : Turn (fun x => W2.heap.size ≤ x) _ w5 := Turn.ofGrown hG5 (fun x hx _ => (hO3.owns.lt x hx).1); have X5 := X4.out.turn T5 (fun e => Nat.lt_irrefl _ (Nat.lt_of_lt_of_le X2.lt e)); have Y5 := Y4.out.turn T5 (fun e => Nat.lt_irrefl _ (Nat.lt_of_lt_of_le Y2.lt e)); have c0 := X5.c0; have c1 := X5.c1; have c3 := X5.c3; have d0 := Y5.c0; have d1 := Y5.c1; have d2 := Y5.c2; have d3 := Y5.c3; have g0 := Y5.f0; have g1 := Y5.f1; have g2 := Y5.f2; have g3 := Y5.f3))
    obtain ⟨Z6, T6⟩ := Y5.set (.string ⟨rest.toArray⟩) 0 (.slice q5 (f.length + 1) k5) over
    have hO6 := hO5.kept2 T6 (by have := B2.size; have := Y2.lt; omega)
    have B6 : Below w.heap.size w _ := B5.trans (T6.below B5.size (fun k hk e => by omega))
    generalize (((w5.setCell ⟨w.heap.size + 1, 0, none⟩ (.string ⟨rest.toArray⟩)).setCell ⟨w.heap.size + 1, 1, none⟩ (.int .i64 0)).setCell ⟨w.heap.size + 1, 2, none⟩ (.slice q5 (f.length + 1) k5)).setCell ⟨w.heap.size + 1, 3, none⟩ (.bool over) = w6 at *
    have m0 := Z6.c0
    have m1 := Z6.c1
    have m2 := Z6.c2
    have m3 := Z6.c3
    refine bodyPost_ret (v := .agg #[.string ⟨rest.toArray⟩, .int .i64 0, .slice q5 (f.length + 1) k5, .bool over]) (by simp [results, Tryd.results68, go_sem, m0, m1, m2, m3]) rfl ?_
    trace_state
    have hO7 := hO6.low B2.size
    rw [List.length_append, List.length_singleton] at hO7
    exact ⟨⟨_, rfl, hO7⟩, B6⟩
  · have hs0 : ¬ (0 : Int) < (s : Int) := by omega
    have htl : Fr.tell s f = f := by unfold Fr.tell; rw [if_neg h0]
    rw [htl]
    replace hl := Lib.hid hl
    replace htl := Lib.hid htl
    clear h0
    go_enter Tryd.func68, Tryd.ntmps68
    go_wp2_with (at_builtin; have _t := tok1; refine append_items 27 43 _ 32 infoRI rfl Tryd.underlying27 rfl _ _ rfl W2.heap.size (.slice none 0 0) [] rfl (OwnR.nil _ _ _) q n c f rfl (by first | exact R2 | (rw [eW1, eW2]; exact R2)) (by have := hl.out; simp; omega) (by decide) (by first | exact Nat.le_refl _ | (rw [eW1, eW2]; exact Nat.le_refl _)) ?_; intro v3 w3 hO3 hG3; clear tok1; rw [List.nil_append] at hO3; obtain ⟨q3, k3, e3, _⟩ := hO3.row; subst e3; have hG3' : W2.grownBy w3 (Value.slice none 0 0).ownBlock := (by first | exact hG3 | (rw [← eW2, ← eW1]; exact hG3)); have T3 : Turn (fun _ => False) W2 w3 := Turn.ofGrown hG3' (fun k e => by cases e); have X3 := X2.turn T3 (fun h => h); have Y3 := Y2.turn T3 (fun h => h); have B3 : Below w.heap.size w w3 := B2.grown hG3' B2.size (fun k e => by cases e); have c0 := X3.c0; have c1 := X3.c1; have c3 := X3.c3; have d0 := Y3.c0; have d1 := Y3.c1; have d2 := Y3.c2; have d3 := Y3.c3; have g0 := Y3.f0; have g1 := Y3.f1; have g2 := Y3.f2; have g3 := Y3.f3)
    obtain ⟨Z6, T6⟩ := Y3.set (.string ⟨rest.toArray⟩) 0 (.slice q3 f.length k3) over
    have hO6 := hO3.kept2 T6 (by have := B2.size; have := Y2.lt; omega)
    have B6 : Below w.heap.size w _ := B3.trans (T6.below B3.size (fun k hk e => by omega))
    generalize (((w3.setCell ⟨w.heap.size + 1, 0, none⟩ (.string ⟨rest.toArray⟩)).setCell ⟨w.heap.size + 1, 1, none⟩ (.int .i64 0)).setCell ⟨w.heap.size + 1, 2, none⟩ (.slice q3 f.length k3)).setCell ⟨w.heap.size + 1, 3, none⟩ (.bool over) = w6 at *
    have m0 := Z6.c0
    have m1 := Z6.c1
    have m2 := Z6.c2
    have m3 := Z6.c3
    refine bodyPost_ret (v := .agg #[.string ⟨rest.toArray⟩, .int .i64 0, .slice q3 f.length k3, .bool over]) (by simp [results, Tryd.results68, go_sem, m0, m1, m2, m3]) rfl ?_
    trace_state
    exact ⟨⟨_, rfl, hO6.low B2.size⟩, B6⟩
end Go.Proofs.YtdmpopdacbdnlaaDoor
