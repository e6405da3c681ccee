/- The reference's ledger, plainly: a list of what is said. No program. -/
import Derived.Test.YtkdekdogfplbmaaLdMath
namespace Go.Proofs.Ytkdekdogfplbmaa
open Go.RowKit
set_option linter.unusedVariables false

def yV (y : Int × Bool) : List Value := [.int .i64 y.1, .bool y.2]
/-- what the list says of a moment: the first that is of it -/
def look : List (Int × Bool) → Int → Option Bool
  | [], _ => none
  | y :: l, z => if y.1 = z then some y.2 else look l z
theorem look_none {l : List (Int × Bool)} {z : Int} (h : ∀ y ∈ l, y.1 ≠ z) : look l z = none := by
  induction l with
  | nil => rfl
  | cons y l ih => rw [look, if_neg (h y (by simp))]; exact ih (fun x hx => h x (by simp [hx]))
theorem look_append (l m : List (Int × Bool)) (z : Int) : look (l ++ m) z = match look l z with | some v => some v | none => look m z := by
  induction l with
  | nil => rfl
  | cons y l ih =>
    simp only [List.cons_append, look]
    split
    · rfl
    · exact ih
/-- the first k are of other moments; the next one is of this -/
theorem look_at {l : List (Int × Bool)} {z : Int} {k : Nat} (hk : k < l.length) (h : look (l.take k) z = none) : look l z = if (l[k]'hk).1 = z then some (l[k]'hk).2 else look (l.drop (k + 1)) z := by
  have e : l = l.take k ++ (l[k]'hk :: l.drop (k + 1)) := by rw [← List.drop_eq_getElem_cons hk, List.take_append_drop]
  conv => lhs; rw [e, look_append, h]
  rfl
/-- what is left behind 'without' -/
def outA (at_ : Int) (l : List (Int × Bool)) : List (Int × Bool) := l.filter fun y => decide (y.1 ≠ at_)
def outE (at_ : Int) (l : List (Int × Bool)) : List (Int × Bool) := l.filter fun y => decide (at_ < y.1)
theorem look_filter (l : List (Int × Bool)) (p : Int → Bool) (z : Int) : look (l.filter fun y => p y.1) z = if p z then look l z else none := by
  induction l with
  | nil => simp [look]
  | cons y l ih =>
    by_cases hy : p y.1 = true
    · rw [List.filter_cons_of_pos (by simpa using hy)]
      simp only [look]
      by_cases e : y.1 = z
      · subst e; simp [hy]
      · simp only [if_neg e]; exact ih
    · rw [List.filter_cons_of_neg (by simpa using hy), ih]
      simp only [look]
      by_cases e : y.1 = z
      · subst e; simp [hy]
      · simp only [if_neg e]
theorem look_outA (at_ : Int) (yes : Bool) (l : List (Int × Bool)) (z : Int) : look (outA at_ l ++ [(at_, yes)]) z = putM (look l) at_ yes z := by
  unfold outA putM
  rw [look_append, look_filter l (fun x => decide (x ≠ at_))]
  by_cases e : z = at_
  · subst e; simp [look]
  · have e' : ¬ at_ = z := fun h => e h.symm
    simp only [e, ne_eq, not_false_eq_true, decide_true, if_true, if_false, look, e']
    cases look l z <;> rfl
theorem look_outE (at_ : Int) (l : List (Int × Bool)) (z : Int) : look (outE at_ l) z = if z ≤ at_ then none else look l z := by
  unfold outE
  rw [look_filter l (fun x => decide (at_ < x))]
  by_cases e : z ≤ at_
  · rw [if_pos e, if_neg (by simpa using e)]
  · rw [if_neg e, if_pos (by simp; omega)]
theorem out_len (p : Int × Bool → Bool) (l : List (Int × Bool)) : (l.filter p).length ≤ l.length := List.length_filter_le _ _
/-- the reference's state, and the ledger's -/
structure RS where
  ys : List (Int × Bool)
  done : Int
  patience : Int
def RS.ok (r : RS) (s : LS) : Prop := r.patience = s.patience ∧ r.done = s.done ∧ ∀ z, look r.ys z = s.said z
def RS.new (p : Int) : RS := ⟨[], -1, p⟩
theorem RS.new_ok (p : Int) : (RS.new p).ok (LS.new p) := ⟨rfl, rfl, fun _ => rfl⟩
def RS.back (r : RS) (z : Int) (yes : Bool) : List Rc := backOf (look r.ys z) z yes
def RS.still (r : RS) (at_ since now : Int) (yes : Bool) : Prop := at_ ≤ r.done ∨ cut (now - since) < r.patience ∨ look r.ys at_ = some yes
instance (s : RS) (at_ since now : Int) (yes : Bool) : Decidable (s.still at_ since now yes) := by unfold RS.still; exact inferInstance
def RS.tellS (r : RS) (at_ since now : Int) (yes : Bool) : RS := if r.still at_ since now yes then r else ⟨outA at_ r.ys ++ [(at_, yes)], r.done, r.patience⟩
def RS.tellR (r : RS) (at_ since now : Int) (yes : Bool) : List Rc := if r.still at_ since now yes then [] else r.back at_ yes ++ [⟨28, at_, 0, yes⟩]
def RS.finS (r : RS) (at_ : Int) : RS := if at_ ≤ r.done then r else ⟨outE at_ r.ys, at_, r.patience⟩
def RS.finR (r : RS) (at_ since now : Int) (yes : Bool) : List Rc := if at_ ≤ r.done then [] else r.back at_ yes ++ [⟨30, at_, 0, yes⟩, ⟨31, at_, max (cut (now - since)) 0, false⟩]
theorem RS.still_iff {r : RS} {s : LS} (h : r.ok s) (at_ since now : Int) (yes : Bool) : r.still at_ since now yes ↔ s.still at_ since now yes := by
  obtain ⟨h1, h2, h3⟩ := h
  unfold RS.still LS.still
  rw [h1, h2, h3]
theorem RS.tell_ok {r : RS} {s : LS} (h : r.ok s) (at_ since now : Int) (yes : Bool) : (r.tellS at_ since now yes).ok (s.tellS at_ since now yes) ∧ r.tellR at_ since now yes = s.tellR at_ since now yes := by
  have hi := RS.still_iff h at_ since now yes
  unfold RS.tellS LS.tellS RS.tellR LS.tellR
  by_cases hs : s.still at_ since now yes
  · rw [if_pos hs, if_pos (hi.2 hs), if_pos hs, if_pos (hi.2 hs)]; exact ⟨h, rfl⟩
  · rw [if_neg hs, if_neg (fun x => hs (hi.1 x)), if_neg hs, if_neg (fun x => hs (hi.1 x))]
    obtain ⟨h1, h2, h3⟩ := h
    refine ⟨⟨h1, h2, fun z => ?_⟩, ?_⟩
    · rw [look_outA]; unfold putM; simp only [h3]
    · unfold RS.back LS.back; rw [h3]
theorem RS.fin_ok {r : RS} {s : LS} (h : r.ok s) (at_ since now : Int) (yes : Bool) : (r.finS at_).ok (s.finS at_) ∧ r.finR at_ since now yes = s.finR at_ since now yes := by
  obtain ⟨h1, h2, h3⟩ := h
  unfold RS.finS LS.finS RS.finR LS.finR
  rw [h2]
  by_cases hs : at_ ≤ s.done
  · simp only [if_pos hs]; exact ⟨⟨h1, h2, h3⟩, trivial⟩
  · simp only [if_neg hs]
    refine ⟨⟨h1, rfl, fun z => ?_⟩, ?_⟩
    · rw [look_outE]; simp only [h3]
    · unfold RS.back LS.back; rw [h3]
theorem RS.len_tell (r : RS) (at_ since now : Int) (yes : Bool) : (r.tellS at_ since now yes).ys.length ≤ r.ys.length + 1 := by
  unfold RS.tellS; split
  · omega
  · simp only [List.length_append, List.length_cons, List.length_nil]; have := out_len (fun y => decide (y.1 ≠ at_)) r.ys; unfold outA; omega
theorem RS.len_fin (r : RS) (at_ : Int) : (r.finS at_).ys.length ≤ r.ys.length + 1 := by
  unfold RS.finS; split
  · omega
  · simp only; have := out_len (fun y => decide (at_ < y.1)) r.ys; unfold outE; omega
end Go.Proofs.Ytkdekdogfplbmaa
