/- The reference's record, plainly: it is the same. No program. -/
import Derived.Test.YtdmpopdacbdnlaaDoorRecMath
namespace Go.Proofs.YtdmpopdacbdnlaaDoor
open Go.RowKit
set_option linter.unusedVariables false

/-- has a kind a field? -/
def hasF (k f : Nat) : Bool :=
  if f = 1 then decide (17 ≤ k ∧ k ≤ 26)
  else if f = 2 then decide (20 ≤ k ∧ k ≤ 24)
  else if f = 3 then decide ((20 ≤ k ∧ k ≤ 23) ∨ k = 25 ∨ (27 ≤ k ∧ k ≤ 31))
  else if f = 4 then decide (k = 17 ∨ k = 31)
  else if f = 5 then decide ((18 ≤ k ∧ k ≤ 20) ∨ k = 27)
  else if f = 6 then decide (28 ≤ k ∧ k ≤ 30)
  else decide (f = 7 ∧ k = 32)
def refRange (r : Rec) : Bool := decide (17 ≤ r.kind.toNat ∧ r.kind.toNat ≤ 32 ∧ 0 ≤ r.source ∧ r.source ≤ 7 ∧ 0 ≤ r.at_ ∧ 0 ≤ r.num ∧ 0 ≤ r.code ∧ r.code ≤ 255 ∧ r.text.length ≤ 240)
def refNought (r : Rec) : Bool :=
  (hasF r.kind.toNat 1 || decide (r.source = 0)) && ((hasF r.kind.toNat 2 || decide (r.seq = 0)) && ((hasF r.kind.toNat 3 || decide (r.at_ = 0)) && ((hasF r.kind.toNat 4 || decide (r.num = 0)) && ((hasF r.kind.toNat 5 || decide (r.code = 0)) && ((hasF r.kind.toNat 6 || !r.yes) && (hasF r.kind.toNat 7 || decide (r.text = [])))))))
def refMay (r : Rec) : Bool := refRange r && refNought r
theorem may_eq (r : Rec) : mayB r = refMay r := by
  unfold mayB refMay
  by_cases hk : 17 ≤ r.kind.toNat ∧ r.kind.toNat ≤ 32
  · have hkb : kindB r.kind = true := by unfold kindB; simp [hk]
    have e1 : eqRec (onlyOf r) r = refNought r := by
      obtain ⟨k, s, q, a, n, c, y, t⟩ := r
      simp only at hk
      unfold onlyOf refNought
      rcases kind_split k hk.1 hk.2 with h | h | h | h | h | h | h | h | h | h | h | h | h | h | h | h <;> subst h <;> simp [fieldsOf, formsT, copy1, Rec.zero, eqRec, hasF, Bool.and_assoc, eq_comm (a := (0 : Int)), eq_comm (a := (0 : Nat)), eq_comm (a := ([] : List UInt8))] <;> (try cases y) <;> simp [Bool.and_assoc]
    have e2 : decide (0 ≤ r.source ∧ r.source < 8 ∧ 0 ≤ r.at_ ∧ 0 ≤ r.num ∧ 0 ≤ r.code ∧ r.code ≤ 255 ∧ r.text.length ≤ 240) = refRange r := by
      unfold refRange
      rw [decide_eq_decide]
      constructor
      · rintro ⟨h1, h2, h3⟩; exact ⟨hk.1, hk.2, h1, by omega, h3⟩
      · rintro ⟨_, _, h1, h2, h3⟩; exact ⟨h1, by omega, h3⟩
    rw [hkb, e1, e2, Bool.true_and, Bool.and_comm]
  · have h1 : kindB r.kind = false := by unfold kindB; simp; omega
    have h2 : refRange r = false := by unfold refRange; simp; omega
    rw [h1, h2]; rfl
/-- the fields' numbers in a kind's order -/
def orderOf (k : Nat) : List Nat := if k = 27 then [5, 3] else [1, 2, 3, 4, 5, 6, 7].filter (hasF k)
def numOf (c : UInt8) : Nat := if c = 115 then 1 else if c = 113 then 2 else if c = 97 then 3 else if c = 110 then 4 else if c = 99 then 5 else if c = 121 then 6 else 7
theorem order_eq (k : UInt8) (h : 17 ≤ k.toNat) (h' : k.toNat ≤ 32) : orderOf k.toNat = (fieldsOf k).map numOf := by
  rcases kind_split k h h' with h | h | h | h | h | h | h | h | h | h | h | h | h | h | h | h <;> subst h <;> rfl
/-- a field's letter -/
def letter (c : UInt8) : Prop := c = 115 ∨ c = 113 ∨ c = 97 ∨ c = 110 ∨ c = 99 ∨ c = 121 ∨ c = 116
theorem fields_letter (k : UInt8) (h : 17 ≤ k.toNat) (h' : k.toNat ≤ 32) : ∀ c ∈ fieldsOf k, letter c := by
  unfold letter
  rcases kind_split k h h' with h | h | h | h | h | h | h | h | h | h | h | h | h | h | h | h <;> subst h <;> simp [fieldsOf, formsT]
theorem fields_len (k : UInt8) : (fieldsOf k).length ≤ 4 := by
  unfold fieldsOf
  by_cases h : k.toNat - 17 < 16
  · have : ∀ i : Fin 16, (formsT.getD i.val ([], [])).2.length ≤ 4 := by decide
    exact this ⟨_, h⟩
  · rw [List.getD_eq_getElem?_getD, List.getElem?_eq_none (by have : formsT.length = 16 := rfl; omega)]; simp
end Go.Proofs.YtdmpopdacbdnlaaDoor
