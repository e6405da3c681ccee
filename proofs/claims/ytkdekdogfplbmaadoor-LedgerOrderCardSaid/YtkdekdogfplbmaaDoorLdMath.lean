/- The ledger, plainly: what is said of moments, and the records that are told. No program. -/
import Derived.Test.YtkdekdogfplbmaaDoorMap
import Derived.Test.YtkdekdogfplbmaaDoorRowG
import Derived.Test.YtkdekdogfplbmaaDoorSatMath
namespace Go.Proofs.YtkdekdogfplbmaaDoor
open Go.RowKit
set_option linter.unusedVariables false

/-- a record of the ledger's -/
structure Rc where
  kind : Nat
  at_ : Int
  num : Int
  yes : Bool
/-- its cells -/
def rcV (r : Rc) : List Value := [.int .u8 (r.kind : Int), .int .i64 0, .int .u64 0, .int .i64 r.at_, .int .i64 r.num, .int .i64 0, .bool r.yes, .string ⟨#[]⟩]
theorem rcV_len (r : Rc) : (rcV r).length = 8 := rfl
/-- the ledger -/
structure LS where
  patience : Int
  done : Int
  said : Int → Option Bool
def LS.new (p : Int) : LS := ⟨p, -1, fun _ => none⟩
/-- what is taken back -/
def backOf (o : Option Bool) (at_ : Int) (yes : Bool) : List Rc :=
  match o with
  | some was => if was = yes then [] else [⟨29, at_, 0, was⟩]
  | none => []
def LS.back (s : LS) (at_ : Int) (yes : Bool) : List Rc := backOf (s.said at_) at_ yes
/-- is nothing told? -/
def LS.still (s : LS) (at_ since now : Int) (yes : Bool) : Prop := at_ ≤ s.done ∨ cut (now - since) < s.patience ∨ s.said at_ = some yes
instance (s : LS) (at_ since now : Int) (yes : Bool) : Decidable (s.still at_ since now yes) := by unfold LS.still; exact inferInstance
def LS.tellS (s : LS) (at_ since now : Int) (yes : Bool) : LS := if s.still at_ since now yes then s else ⟨s.patience, s.done, putM s.said at_ yes⟩
def LS.tellR (s : LS) (at_ since now : Int) (yes : Bool) : List Rc := if s.still at_ since now yes then [] else s.back at_ yes ++ [⟨28, at_, 0, yes⟩]
def LS.finS (s : LS) (at_ : Int) : LS := if at_ ≤ s.done then s else ⟨s.patience, at_, fun z => if z ≤ at_ then none else s.said z⟩
def LS.finR (s : LS) (at_ since now : Int) (yes : Bool) : List Rc := if at_ ≤ s.done then [] else s.back at_ yes ++ [⟨30, at_, 0, yes⟩, ⟨31, at_, max (cut (now - since)) 0, false⟩]
/-- an act -/
structure Ac where
  at_ : Int
  since : Int
  now : Int
  yes : Bool
  fin : Bool
def Ac.ok (a : Ac) : Prop := (-9223372036854775808 ≤ a.at_ ∧ a.at_ ≤ 9223372036854775807) ∧ (-9223372036854775808 ≤ a.since ∧ a.since ≤ 9223372036854775807) ∧ (-9223372036854775808 ≤ a.now ∧ a.now ≤ 9223372036854775807)
def acV (a : Ac) : List Value := [.int .i64 a.at_, .int .i64 a.since, .int .i64 a.now, .bool a.yes, .bool a.fin]
def LS.playS (s : LS) (a : Ac) : LS := if a.fin then s.finS a.at_ else s.tellS a.at_ a.since a.now a.yes
def LS.playR (s : LS) (a : Ac) : List Rc := if a.fin then s.finR a.at_ a.since a.now a.yes else s.tellR a.at_ a.since a.now a.yes
theorem back_len (s : LS) (z : Int) (y : Bool) : (s.back z y).length ≤ 1 := by
  unfold LS.back backOf; split <;> (try split) <;> simp
theorem playR_len (s : LS) (a : Ac) : (s.playR a).length ≤ 3 := by
  have := back_len s a.at_ a.yes
  unfold LS.playR LS.finR LS.tellR
  split <;> split <;> simp <;> omega
theorem done_range (s : LS) (a : Ac) (ha : a.ok) (h : -9223372036854775808 ≤ s.done ∧ s.done ≤ 9223372036854775807) : -9223372036854775808 ≤ (s.playS a).done ∧ (s.playS a).done ≤ 9223372036854775807 := by
  obtain ⟨h1, _, _⟩ := ha
  unfold LS.playS LS.finS LS.tellS
  split <;> split <;> first | exact h | exact h1
theorem playS_patience (s : LS) (a : Ac) : (s.playS a).patience = s.patience := by
  unfold LS.playS LS.finS LS.tellS
  split <;> split <;> rfl

/-! LedgerPattern -/
def code : Option Bool → Int
  | none => 0
  | some false => 1
  | some true => 2
def now_ (y : Bool) : Int := if y then 2 else 1
theorem code_some (y : Bool) : code (some y) = now_ y := by cases y <;> rfl
theorem now_ne (y : Bool) : now_ y ≠ 0 := by cases y <;> decide
theorem now_inj {x y : Bool} : now_ x = now_ y ↔ x = y := by cases x <;> cases y <;> simp [now_]
/-- one record seen by LedgerPattern; none: it says no -/
def patStep (at_ : Int) (p : Int × Int) (r : Rc) : Option (Int × Int) :=
  if r.at_ ≠ at_ then some p
  else if r.kind = 28 then (if p.2 ≠ 0 ∨ p.1 ≠ 0 then none else some (now_ r.yes, p.2))
  else if r.kind = 29 then (if p.2 ≠ 0 ∨ p.1 ≠ now_ r.yes then none else some (0, p.2))
  else if r.kind = 30 then (if p.2 ≠ 0 ∨ p.1 ≠ 0 ∧ p.1 ≠ now_ r.yes then none else some (p.1, 1))
  else if r.kind = 31 then (if p.2 ≠ 1 ∨ r.num < 0 then none else some (p.1, 2))
  else none
def patAll (at_ : Int) : List Rc → Int × Int → Option (Int × Int)
  | [], p => some p
  | r :: l, p => (patStep at_ p r).bind (patAll at_ l)
theorem patAll_append (at_ : Int) (l m : List Rc) (p : Int × Int) : patAll at_ (l ++ m) p = (patAll at_ l p).bind (patAll at_ m) := by
  induction l generalizing p with
  | nil => rfl
  | cons r l ih =>
    simp only [List.cons_append, patAll]
    cases patStep at_ p r with
    | none => rfl
    | some q => exact ih q
/-- what holds between what LedgerPattern has seen and the ledger -/
def PatJ (s : LS) (at_ : Int) (p : Int × Int) : Prop := (p.2 = 0 ∨ p.2 = 2) ∧ (s.done < at_ → p = (code (s.said at_), 0))
theorem patJ_start (pa at_ : Int) : PatJ (LS.new pa) at_ (0, 0) := ⟨.inl rfl, fun _ => rfl⟩
theorem patAll_off (at_ : Int) (l : List Rc) (p : Int × Int) (h : ∀ r ∈ l, r.at_ ≠ at_) : patAll at_ l p = some p := by
  induction l with
  | nil => rfl
  | cons r l ih =>
    simp only [patAll, patStep, if_pos (h r (by simp)), Option.bind_some]
    exact ih (fun x hx => h x (by simp [hx]))
theorem back_off (s : LS) (z : Int) (y : Bool) : ∀ r ∈ s.back z y, r.at_ = z := by
  unfold LS.back backOf
  split <;> (try split) <;> simp
theorem patJ_step (s : LS) (at_ : Int) (p : Int × Int) (a : Ac) (h : PatJ s at_ p) : ∃ p', patAll at_ (s.playR a) p = some p' ∧ PatJ (s.playS a) at_ p' := by
  obtain ⟨h1, h2⟩ := h
  by_cases hf : a.fin = true
  · unfold LS.playR LS.playS LS.finR LS.finS
    simp only [hf, if_true]
    by_cases hd : a.at_ ≤ s.done
    · rw [if_pos hd, if_pos hd]; exact ⟨p, rfl, h1, h2⟩
    · rw [if_neg hd, if_neg hd]
      by_cases e : a.at_ = at_
      · subst e
        have hp := h2 (by omega)
        subst hp
        have hm : (0 : Int) ≤ max (cut (a.now - a.since)) 0 := by omega
        unfold LS.back backOf
        cases hs : s.said a.at_ with
        | none => exact ⟨(0, 2), by simp [patAll, patStep, code]; omega, .inr rfl, fun hx => by simp at hx⟩
        | some was =>
          by_cases hw : was = a.yes
          · subst hw
            exact ⟨(now_ a.yes, 2), by simp [patAll, patStep, code_some]; omega, .inr rfl, fun hx => by simp at hx⟩
          · simp only [hw, if_false]
            exact ⟨(0, 2), by simp [patAll, patStep, code_some]; omega, .inr rfl, fun hx => by simp at hx⟩
      · refine ⟨p, ?_, h1, fun hx => ?_⟩
        · refine patAll_off _ _ _ (fun r hr => ?_)
          rcases List.mem_append.1 hr with hr | hr
          · rw [back_off s _ _ r hr]; exact e
          · simp at hr
            rcases hr with rfl | rfl <;> exact e
        · simp only at hx
          rw [h2 (by omega)]
          simp only [if_neg (show ¬ at_ ≤ a.at_ by omega)]
  · replace hf : a.fin = false := by simpa using hf
    unfold LS.playR LS.playS LS.tellR LS.tellS
    simp only [hf, Bool.false_eq_true, if_false]
    by_cases hd : s.still a.at_ a.since a.now a.yes
    · simp only [if_pos hd]; exact ⟨p, rfl, h1, h2⟩
    · simp only [if_neg hd]
      unfold LS.still at hd
      by_cases e : a.at_ = at_
      · subst e
        have hp := h2 (by omega)
        subst hp
        unfold LS.back backOf
        cases hs : s.said a.at_ with
        | none => exact ⟨(now_ a.yes, 0), by simp [patAll, patStep, code], .inl rfl, fun _ => by simp [putM, code_some]⟩
        | some was =>
          have hw : ¬ was = a.yes := fun e => hd (.inr (.inr (by rw [hs, e])))
          simp only [hw, if_false]
          exact ⟨(now_ a.yes, 0), by simp [patAll, patStep, code_some], .inl rfl, fun _ => by simp [putM, code_some]⟩
      · refine ⟨p, ?_, h1, fun hx => ?_⟩
        · refine patAll_off _ _ _ (fun r hr => ?_)
          rcases List.mem_append.1 hr with hr | hr
          · rw [back_off s _ _ r hr]; exact e
          · simp at hr
            rw [hr]; exact e
        · rw [h2 hx]
          simp only [putM, if_neg (Ne.symm e)]
theorem patStep_cases {at_ : Int} {sd ov sd' ov' : Int} {r : Rc} (h : patStep at_ (sd, ov) r = some (sd', ov')) :
    (r.at_ ≠ at_ ∧ sd' = sd ∧ ov' = ov) ∨ (r.at_ = at_ ∧ r.kind = 28 ∧ sd = 0 ∧ ov = 0 ∧ sd' = now_ r.yes ∧ ov' = 0) ∨ (r.at_ = at_ ∧ r.kind = 29 ∧ sd = now_ r.yes ∧ ov = 0 ∧ sd' = 0 ∧ ov' = 0) ∨
    (r.at_ = at_ ∧ r.kind = 30 ∧ sd = 0 ∧ ov = 0 ∧ sd' = 0 ∧ ov' = 1) ∨ (r.at_ = at_ ∧ r.kind = 30 ∧ sd = now_ r.yes ∧ ov = 0 ∧ sd' = now_ r.yes ∧ ov' = 1) ∨ (r.at_ = at_ ∧ r.kind = 31 ∧ ov = 1 ∧ 0 ≤ r.num ∧ sd' = sd ∧ ov' = 2) := by
  unfold patStep at h
  simp only at h
  split at h
  · simp at h; rename_i h1; exact .inl ⟨h1, h.1.symm, h.2.symm⟩
  · rename_i h1
    have h1 : r.at_ = at_ := by simpa using h1
    split at h
    · split at h
      · cases h
      · simp at h; rename_i h2 h3; exact .inr (.inl ⟨h1, h2, by omega, by omega, h.1.symm, by omega⟩)
    · split at h
      · split at h
        · cases h
        · simp at h; rename_i h2 h3; exact .inr (.inr (.inl ⟨h1, h2, by omega, by omega, by omega, by omega⟩))
      · split at h
        · split at h
          · cases h
          · simp at h
            rename_i h2 h3
            by_cases e : sd = 0
            · exact .inr (.inr (.inr (.inl ⟨h1, h2, e, by omega, by omega, by omega⟩)))
            · exact .inr (.inr (.inr (.inr (.inl ⟨h1, h2, by omega, by omega, by omega, by omega⟩))))
        · split at h
          · split at h
            · cases h
            · simp at h; rename_i h2 h3; exact .inr (.inr (.inr (.inr (.inr ⟨h1, h2, by omega, by omega, by omega, by omega⟩))))
          · cases h
theorem patAll_step {at_ : Int} {l : List Rc} {p q : Int × Int} (h : patAll at_ l p = some q) {j : Nat} (hj : j < l.length) {sd ov : Int} (hp : patAll at_ (l.take j) p = some (sd, ov)) :
    ∃ sd' ov', patStep at_ (sd, ov) (l[j]'hj) = some (sd', ov') ∧ patAll at_ (l.take (j + 1)) p = some (sd', ov') := by
  have e : l.take (j + 1) = l.take j ++ [l[j]'hj] := List.take_succ_eq_append_getElem hj
  have h2 : patAll at_ (l.take (j + 1)) p = patStep at_ (sd, ov) (l[j]'hj) := by
    rw [e, patAll_append, hp]
    simp only [Option.bind_some, patAll]
    cases patStep at_ (sd, ov) (l[j]'hj) <;> rfl
  have h3 : l = l.take (j + 1) ++ l.drop (j + 1) := (List.take_append_drop _ _).symm
  rw [h3, patAll_append, h2] at h
  cases hs : patStep at_ (sd, ov) (l[j]'hj) with
  | none => rw [hs] at h; cases h
  | some x => exact ⟨x.1, x.2, rfl, by rw [h2, hs]⟩
/-! LedgerLast -/
theorem fin_done (s : LS) (a : Ac) (hf : a.fin = true) : a.at_ ≤ (s.playS a).done := by
  unfold LS.playS LS.finS
  simp only [hf, if_true]
  split
  · assumption
  · exact Int.le_refl _
theorem tell_last (s : LS) (a : Ac) (hf : a.fin = false) : (s.playR a).length ≤ 2 ∧ (0 < (s.playR a).length → (s.playS a).said a.at_ = some a.yes ∧ ∃ l, s.playR a = l ++ [⟨28, a.at_, 0, a.yes⟩]) := by
  have := back_len s a.at_ a.yes
  unfold LS.playR LS.playS LS.tellR LS.tellS
  simp only [hf, Bool.false_eq_true, if_false]
  split
  · simp
  · refine ⟨by simp; omega, fun _ => ⟨by simp [putM], _, rfl⟩⟩
theorem tell_again (s : LS) (a : Ac) (hf : a.fin = false) : (s.playS a).tellR a.at_ a.since a.now a.yes = [] ∧ (s.playS a).tellS a.at_ a.since a.now a.yes = s.playS a := by
  have h : (s.playS a).still a.at_ a.since a.now a.yes := by
    unfold LS.playS LS.tellS
    simp only [hf, Bool.false_eq_true, if_false]
    split
    · assumption
    · exact .inr (.inr (by simp [putM]))
  unfold LS.tellR
  rw [if_pos h]
  refine ⟨rfl, ?_⟩
  conv => lhs; unfold LS.tellS
  rw [if_pos h]
/-! LedgerApart -/
def Alike (at_ : Int) (s t : LS) : Prop := s.patience = t.patience ∧ s.done = t.done ∧ s.said at_ = t.said at_
theorem alike_skip {at_ : Int} {s t : LS} (h : Alike at_ s t) (a : Ac) (hf : a.fin = false) (ha : a.at_ ≠ at_) : Alike at_ (s.playS a) t := by
  obtain ⟨h1, h2, h3⟩ := h
  unfold LS.playS LS.tellS
  simp only [hf, Bool.false_eq_true, if_false]
  split
  · exact ⟨h1, h2, h3⟩
  · exact ⟨h1, h2, by simp only [putM, if_neg (Ne.symm ha)]; exact h3⟩
theorem alike_step {at_ : Int} {s t : LS} (h : Alike at_ s t) (a : Ac) (ha : a.fin = true ∨ a.at_ = at_) : Alike at_ (s.playS a) (t.playS a) := by
  obtain ⟨h1, h2, h3⟩ := h
  by_cases hf : a.fin = true
  · unfold LS.playS LS.finS
    simp only [hf, if_true, ← h2]
    split
    · exact ⟨h1, h2, h3⟩
    · exact ⟨h1, rfl, by simp only; split <;> first | rfl | exact h3⟩
  · have e : a.at_ = at_ := ha.resolve_left hf
    replace hf : a.fin = false := by simpa using hf
    unfold LS.playS LS.tellS LS.still
    simp only [hf, Bool.false_eq_true, if_false, ← h1, ← h2, e, ← h3]
    split
    · exact ⟨h1, h2, h3⟩
    · exact ⟨rfl, rfl, by simp [putM]⟩
theorem alike_recs {at_ : Int} {s t : LS} (h : Alike at_ s t) (a : Ac) (ha : a.at_ = at_) : s.playR a = t.playR a := by
  obtain ⟨h1, h2, h3⟩ := h
  unfold LS.playR LS.finR LS.tellR LS.still LS.back
  simp only [ha, ← h1, ← h2, ← h3]
end Go.Proofs.YtkdekdogfplbmaaDoor
