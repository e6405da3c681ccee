/- The contracts of the reference's ledger: New, back. -/
import Derived.Test.YtkdekdogfplbmaaLdRef
namespace Go.Proofs.Ytkdekdogfplbmaa
open Go.RowKit
set_option linter.unusedVariables false
set_option linter.unusedSimpArgs false
set_option maxRecDepth 20000
set_option maxHeartbeats 2000000

/-- three cells of a block that may be written -/
structure Box3 (w : World) (b : Nat) (v0 v1 v2 : Value) : Prop where
  lt : b < w.heap.size
  c0 : w.cell? ⟨b, 0, none⟩ = some v0
  c1 : w.cell? ⟨b, 1, none⟩ = some v1
  c2 : w.cell? ⟨b, 2, none⟩ = some v2
  f0 : w.frozen? ⟨b, 0, none⟩ = false
  f1 : w.frozen? ⟨b, 1, none⟩ = false
  f2 : w.frozen? ⟨b, 2, none⟩ = false
theorem Box3.new (w : World) (v0 v1 v2 : Value) (t : TypeId) : Box3 (w.alloc (.cells #[v0, v1, v2] t)) w.heap.size v0 v1 v2 := ⟨by simp, by simp [go_sem], by simp [go_sem], by simp [go_sem], by simp [go_sem], by simp [go_sem], by simp [go_sem]⟩
theorem Box3.newAt (w : World) (v0 v1 v2 : Value) (t : TypeId) (n : Nat) (hn : w.heap.size = n) : Box3 (w.alloc (.cells #[v0, v1, v2] t)) n v0 v1 v2 := hn ▸ Box3.new w v0 v1 v2 t
theorem Box3.turn {S : Nat → Prop} {w w' : World} {b : Nat} {v0 v1 v2 : Value} (h : Box3 w b v0 v1 v2) (t : Turn S w w') (hn : ¬ S b) : Box3 w' b v0 v1 v2 :=
  ⟨Nat.lt_of_lt_of_le h.lt t.size, (t.cell (p := ⟨b, 0, none⟩) h.lt hn).trans h.c0, (t.cell (p := ⟨b, 1, none⟩) h.lt hn).trans h.c1, (t.cell (p := ⟨b, 2, none⟩) h.lt hn).trans h.c2, (t.frozen (p := ⟨b, 0, none⟩) h.lt hn).trans h.f0, (t.frozen (p := ⟨b, 1, none⟩) h.lt hn).trans h.f1, (t.frozen (p := ⟨b, 2, none⟩) h.lt hn).trans h.f2⟩
theorem Box3.below {w w' : World} {b : Nat} {v0 v1 v2 : Value} (h : Box3 w b v0 v1 v2) (hb : Below w.heap.size w w') : Box3 w' b v0 v1 v2 := h.turn (S := fun _ => False) (Turn.ofBelow hb rfl) (fun h => h)
theorem Box3.store {w : World} {b : Nat} {v0 v1 v2 : Value} (h : Box3 w b v0 v1 v2) (u0 u1 u2 : Value) : Box3 (((w.setCell ⟨b, 0, none⟩ u0).setCell ⟨b, 1, none⟩ u1).setCell ⟨b, 2, none⟩ u2) b u0 u1 u2 ∧ Turn (fun k => k = b) w (((w.setCell ⟨b, 0, none⟩ u0).setCell ⟨b, 1, none⟩ u1).setCell ⟨b, 2, none⟩ u2) := by
  obtain ⟨h0, h1, h2, h3, h4, h5, h6⟩ := h
  exact ⟨⟨by simp [World.setCell]; exact h0, by simp [go_sem, h1, h2, h3], by simp [go_sem, h1, h2, h3], by simp [go_sem, h1, h2, h3], by simp [go_sem, h4], by simp [go_sem, h5], by simp [go_sem, h6]⟩, (((Turn.refl (fun k => k = b) w).setCell ⟨b, 0, none⟩ (fun _ => rfl) _).setCell ⟨b, 1, none⟩ (fun _ => rfl) _).setCell ⟨b, 2, none⟩ (fun _ => rfl) _⟩
theorem ref24_new (p : Int) (w : World) : Calls Try.prog 21 #[.int .i64 p] w fun e w' => e = .returned (rsV none 0 0 (-1) p) ∧ Below w.heap.size w w' := by
  unfold rsV
  go_enter Try.func21, Try.ntmps21
  go_wp2_with fail
  exact bodyPost_ret (v := .agg #[.slice none 0 0, .int .i64 (-1), .int .i64 p]) (by simp [results, Try.results21, go_sem]) rfl ⟨rfl, (by repeat (first | with_reducible exact Below.refl _ _ | with_reducible refine Below.drew ?_ | with_reducible refine Below.alloc ?_ (by (try simp) <;> omega) _ | with_reducible refine Below.setCell ?_ (by (try simp) <;> omega) _))⟩
theorem ref24_back (q : Option Addr) (n c : Nat) (ys : List (Int × Bool)) (d p z : Int) (y : Bool) (w : World) (hR : RowY w q n ys) :
    Calls Try.prog 35 #[rsV q n c d p, .int .i64 z, .bool y] w fun e w' => ∃ v, e = .returned v ∧ OwnX w.heap.size w' v (backOf (look ys z) z y) ∧ Below w.heap.size w w' := by
  have hR2 := fun X t => RowG.below hR ((Below.refl w.heap.size w).alloc (Nat.le_refl _) (.cells #[X, .int .i64 d, .int .i64 p] t))
  have HR2 := Lib.hid (hR2 (.slice q n c) 54)
  clear hR2 hR
  have hs := fun W h => ref24_said q n c ys d p z W h
  unfold rsV at hs ⊢
  have HS := Lib.hid hs
  clear hs
  generalize look ys z = o at *
  unfold backOf
  rcases o with _ | was
  · go_enter Try.func35, Try.ntmps35
    go_wp2_with fail
    refine (HS.out _ HR2.out).mono ?_; rintro e w1 ⟨rfl, hb1⟩
    have z1 := hb1.size
    simp at z1
    go_wp2_with fail
    go_ret
    exact ⟨_, rfl, OwnG.nil _ _ _ _, Below.trans (by repeat (first | with_reducible exact Below.refl _ _ | with_reducible refine Below.drew ?_ | with_reducible refine Below.alloc ?_ (by (try simp) <;> omega) _ | with_reducible refine Below.setCell ?_ (by (try simp) <;> omega) _)) (hb1.mono (by simp))⟩
  · by_cases e : was = y
    · simp only [if_pos e]
      have e1 : (was == y) = true := by simpa using e
      have e2 : (was != y) = false := by simpa using e
      clear e
      go_enter Try.func35, Try.ntmps35
      go_wp2_with fail
      refine (HS.out _ HR2.out).mono ?_; rintro e w1 ⟨rfl, hb1⟩
      have z1 := hb1.size
      simp at z1
      go_wp2_with fail
      go_ret
      exact ⟨_, rfl, OwnG.nil _ _ _ _, Below.trans (by repeat (first | with_reducible exact Below.refl _ _ | with_reducible refine Below.drew ?_ | with_reducible refine Below.alloc ?_ (by (try simp) <;> omega) _ | with_reducible refine Below.setCell ?_ (by (try simp) <;> omega) _)) (hb1.mono (by simp))⟩
    · simp only [if_neg e]
      have e1 : (was == y) = false := by simpa using e
      have e2 : (was != y) = true := by simpa using e
      clear e
      go_enter Try.func35, Try.ntmps35
      go_wp2_with fail
      refine (HS.out _ HR2.out).mono ?_; rintro e w1 ⟨rfl, hb1⟩
      have z1 := hb1.size
      simp at z1
      go_wp2_with (at_builtin; refine append_x rfl _ _ rfl w.heap.size (.slice none 0 0) [] rfl (OwnG.nil _ _ _ _) ⟨w1.heap.size, 0, none⟩ 1 1 [⟨29, z, 0, was⟩] rfl rfl (news_one (by simp [go_sem])) (by simp) (by simp; omega) ?_; intro v2 w2 hO2 ht2)
      go_ret
      exact ⟨v2, rfl, hO2, (Below.trans (by repeat (first | with_reducible exact Below.refl _ _ | with_reducible refine Below.drew ?_ | with_reducible refine Below.alloc ?_ (by (try simp) <;> omega) _ | with_reducible refine Below.setCell ?_ (by (try simp) <;> omega) _)) (hb1.mono (by simp)) : Below w.heap.size w w1).trans ((((Turn.refl (fun _ => False) w1).alloc _).trans ht2 (fun x _ h => by cases h)).below (by omega) (fun _ _ h => h))⟩
end Go.Proofs.Ytkdekdogfplbmaa
