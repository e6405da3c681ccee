/- LedgerOrder, plainly. No program. -/
import Derived.Test.YtkdekdogfplbmaaDoorLdMath
import Derived.Test.YtkdekdogfplbmaaDoorRecRef
namespace Go.Proofs.YtkdekdogfplbmaaDoor
open Go.RowKit
set_option linter.unusedVariables false

/-- a record of the ledger's as a record -/
def toRec (r : Rc) : Rec := ⟨UInt8.ofNat r.kind, 0, 0, r.at_, r.num, 0, r.yes, []⟩
theorem may_ay (k : Nat) (hk : k = 28 ∨ k = 29 ∨ k = 30) (z : Int) (hz : 0 ≤ z) (y : Bool) : mayB (toRec ⟨k, z, 0, y⟩) = true := by
  rw [may_eq]
  unfold refMay refRange refNought toRec
  rcases hk with rfl | rfl | rfl <;> simp [hasF, hz]
theorem may_an (z m : Int) (hz : 0 ≤ z) (hm : 0 ≤ m) : mayB (toRec ⟨31, z, m, false⟩) = true := by
  rw [may_eq]
  unfold refMay refRange refNought toRec
  simp [hasF, hz, hm]
/-- what is never said -/
def OrdJ (s : LS) : Prop := -1 ≤ s.done ∧ ∀ z, z ≤ s.done → s.said z = none
theorem ordJ_new (p : Int) : OrdJ (LS.new p) := ⟨Int.le_refl _, fun _ _ => rfl⟩
theorem ordJ_step {s : LS} (h : OrdJ s) (a : Ac) : OrdJ (s.playS a) := by
  obtain ⟨h1, h2⟩ := h
  cases hf : a.fin with
  | true =>
    unfold LS.playS LS.finS
    simp only [hf, if_true]
    split
    · exact ⟨h1, h2⟩
    · exact ⟨by simp only; omega, fun z hz => by simp only at hz ⊢; rw [if_pos hz]⟩
  | false =>
    unfold LS.playS LS.tellS
    simp only [hf, Bool.false_eq_true, if_false]
    split
    · exact ⟨h1, h2⟩
    · rename_i hs
      refine ⟨h1, fun z hz => ?_⟩
      simp only at hz ⊢
      unfold putM
      rw [if_neg (fun e => hs (.inl (by rw [← e]; exact hz)))]
      exact h2 z hz
/-- the last final moment behind j records -/
def lastK (d at_ : Int) (rs : List Rc) (j : Nat) : Int := if (rs.take j).any (fun r => r.kind == 30) then at_ else d
/-- what LedgerOrder asks of a step's records -/
structure OrdF (d z d' : Int) (rs : List Rc) : Prop where
  each : ∀ j (hj : j < rs.length), 0 ≤ (rs[j]).at_ ∧ lastK d z rs j ≤ (rs[j]).at_ ∧ mayB (toRec rs[j]) = true ∧ (rs[j]).kind < 256
  fin : ∀ j (hj : j < rs.length), (rs[j]).kind = 30 → lastK d z rs j < (rs[j]).at_ ∧ ∃ h2 : j + 1 < rs.length, j + 2 = rs.length ∧ (rs[j + 1]).kind = 31 ∧ (rs[j + 1]).at_ = (rs[j]).at_ ∧ lastK d z rs (j + 1) = (rs[j]).at_
  no : ∀ j (hj : j < rs.length), (rs[j]).kind ≠ 30 → lastK d z rs (j + 1) = lastK d z rs j
  all : lastK d z rs rs.length = d'
theorem backOf_cases (o : Option Bool) (z : Int) (y : Bool) : backOf o z y = [] ∨ ∃ v, backOf o z y = [⟨29, z, 0, v⟩] := by
  unfold backOf
  cases o with
  | none => exact .inl rfl
  | some v => by_cases h : v = y
              · simp [h]
              · simp [h]
theorem ordF_step {s : LS} (h : OrdJ s) (a : Ac) : OrdF s.done a.at_ (s.playS a).done (s.playR a) := by
  obtain ⟨h1, h2⟩ := h
  have none_ : ∀ d', s.done = d' → OrdF s.done a.at_ d' [] := fun d' e => ⟨fun j hj => (by simp at hj), fun j hj => (by simp at hj), fun j hj => (by simp at hj), (by rw [← e]; rfl)⟩
  cases hf : a.fin with
  | true =>
    unfold LS.playS LS.playR LS.finS LS.finR
    simp only [hf, if_true]
    by_cases hd : a.at_ ≤ s.done
    · rw [if_pos hd, if_pos hd]; exact none_ _ rfl
    · rw [if_neg hd, if_neg hd]
      have hz : 0 ≤ a.at_ := by omega
      have hm : (0 : Int) ≤ max (cut (a.now - a.since)) 0 := by omega
      have m30 := may_ay 30 (by omega) a.at_ hz a.yes
      have m31 := may_an a.at_ (max (cut (a.now - a.since)) 0) hz hm
      generalize max (cut (a.now - a.since)) 0 = M at *
      rcases backOf_cases (s.said a.at_) a.at_ a.yes with e | ⟨v, e⟩ <;> unfold LS.back <;> rw [e]
      · refine ⟨fun j hj => ?_, fun j hj hk => ?_, fun j hj hk => ?_, by simp [lastK]⟩
        · simp at hj
          rcases (show j = 0 ∨ j = 1 by omega) with rfl | rfl
          · simp [lastK, hz, m30]; omega
          · simp [lastK, hz, m31]
        · simp at hj
          rcases (show j = 0 ∨ j = 1 by omega) with rfl | rfl
          · simp [lastK]; omega
          · simp at hk
        · simp at hj
          rcases (show j = 0 ∨ j = 1 by omega) with rfl | rfl
          · simp at hk
          · simp [lastK]
      · have m29 := may_ay 29 (by omega) a.at_ hz v
        refine ⟨fun j hj => ?_, fun j hj hk => ?_, fun j hj hk => ?_, by simp [lastK]⟩
        · simp at hj
          rcases (show j = 0 ∨ j = 1 ∨ j = 2 by omega) with rfl | rfl | rfl
          · simp [lastK, hz, m29]; omega
          · simp [lastK, hz, m30]; omega
          · simp [lastK, hz, m31]
        · simp at hj
          rcases (show j = 0 ∨ j = 1 ∨ j = 2 by omega) with rfl | rfl | rfl
          · simp at hk
          · simp [lastK]; omega
          · simp at hk
        · simp at hj
          rcases (show j = 0 ∨ j = 1 ∨ j = 2 by omega) with rfl | rfl | rfl
          · simp [lastK]
          · simp at hk
          · simp [lastK]
  | false =>
    unfold LS.playS LS.playR LS.tellS LS.tellR
    simp only [hf, Bool.false_eq_true, if_false]
    by_cases hs : s.still a.at_ a.since a.now a.yes
    · rw [if_pos hs, if_pos hs]; exact none_ _ rfl
    · rw [if_neg hs, if_neg hs]
      have hd : ¬ a.at_ ≤ s.done := fun h => hs (.inl h)
      have hz : 0 ≤ a.at_ := by omega
      have m28 := may_ay 28 (by omega) a.at_ hz a.yes
      rcases backOf_cases (s.said a.at_) a.at_ a.yes with e | ⟨v, e⟩ <;> unfold LS.back <;> rw [e]
      · refine ⟨fun j hj => ?_, fun j hj hk => ?_, fun j hj hk => ?_, by simp [lastK]⟩
        · simp at hj
          obtain rfl : j = 0 := by omega
          simp [lastK, hz, m28]; omega
        · simp at hj
          obtain rfl : j = 0 := by omega
          simp at hk
        · simp at hj
          obtain rfl : j = 0 := by omega
          simp [lastK]
      · have m29 := may_ay 29 (by omega) a.at_ hz v
        refine ⟨fun j hj => ?_, fun j hj hk => ?_, fun j hj hk => ?_, by simp [lastK]⟩
        · simp at hj
          rcases (show j = 0 ∨ j = 1 by omega) with rfl | rfl
          · simp [lastK, hz, m29]; omega
          · simp [lastK, hz, m28]; omega
        · simp at hj
          rcases (show j = 0 ∨ j = 1 by omega) with rfl | rfl
          · simp at hk
          · simp at hk
        · simp at hj
          rcases (show j = 0 ∨ j = 1 by omega) with rfl | rfl
          · simp [lastK]
          · simp [lastK]
end Go.Proofs.YtkdekdogfplbmaaDoor
