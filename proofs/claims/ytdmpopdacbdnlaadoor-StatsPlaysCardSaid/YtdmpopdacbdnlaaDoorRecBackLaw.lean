/- Records put, and taken: each the other's way back. No program. -/
import Derived.Test.YtdmpopdacbdnlaaDoorRecAllM
import Derived.Test.YtdmpopdacbdnlaaDoorRecPut
import Derived.Test.YtdmpopdacbdnlaaDoorFrPutsLaw
import Derived.Test.YtdmpopdacbdnlaaDoorRecShow
namespace Go.Proofs.YtdmpopdacbdnlaaDoor
open Go.RowKit
set_option linter.unusedVariables false
set_option linter.unusedSimpArgs false
set_option maxRecDepth 20000
/-- the numbers of a record that may be -/
structure Rec.in (r : Rec) : Prop where
  source : 0 ≤ r.source ∧ r.source < 8
  seq : r.seq ≤ 18446744073709551615
  at_ : 0 ≤ r.at_ ∧ r.at_ ≤ 9223372036854775807
  num : 0 ≤ r.num ∧ r.num ≤ 9223372036854775807
  code : 0 ≤ r.code ∧ r.code ≤ 255
  text : r.text.length ≤ 240
theorem may_in {r : Rec} (h : mayB r = true) (hok : r.ok) : r.in := by
  unfold mayB at h
  rw [Bool.and_eq_true, Bool.and_eq_true, decide_eq_true_iff] at h
  obtain ⟨h1, _, h3⟩ := h
  have ha := hok.at_
  have hn := hok.num
  unfold i64B at ha hn
  exact ⟨by omega, hok.seq, by omega, by omega, by omega, by omega⟩
theorem may_only {r : Rec} (h : mayB r = true) : onlyOf r = r := by
  unfold mayB at h
  rw [Bool.and_eq_true, Bool.and_eq_true] at h
  exact (eqRec_iff _ _).1 h.2.1
theorem step_put (r s : Rec) (c : UInt8) (hc : letter c) (hi : r.in) (R : List UInt8) : TS.step ⟨s, true, recF r c ++ R, 0⟩ c = ⟨copy1 r s c, true, R, 0⟩ := by
  obtain ⟨h1, h2, h3, h4, h5, h6⟩ := hi
  have hz : (⟨r.text.toArray⟩ : ByteArray).size = r.text.length := ba_sizeP r.text
  rcases hc with rfl | rfl | rfl | rfl | rfl | rfl | rfl
  all_goals unfold TS.step recF
  · rw [if_neg (by decide), if_neg (by decide)]
    simp only [numU, if_true]
    rw [Oct.num_enc (by omega)]
    simp [set1, okU, mostU, copy1]
    omega
  · rw [if_neg (by decide), if_neg (by decide)]
    simp only [numU, show ¬ ((113 : UInt8) = 115) by decide, if_false, if_true]
    rw [Oct.num_enc (by omega)]
    simp [set1, okU, mostU, copy1]
  · rw [if_neg (by decide), if_neg (by decide)]
    simp only [numU, show ¬ ((97 : UInt8) = 115) by decide, show ¬ ((97 : UInt8) = 113) by decide, if_false, if_true]
    rw [Oct.num_enc (by omega)]
    simp [set1, okU, mostU, copy1]
    omega
  · rw [if_neg (by decide), if_neg (by decide)]
    simp only [numU, show ¬ ((110 : UInt8) = 115) by decide, show ¬ ((110 : UInt8) = 113) by decide, show ¬ ((110 : UInt8) = 97) by decide, if_false, if_true]
    rw [Oct.num_enc (by omega)]
    simp [set1, okU, mostU, copy1]
    omega
  · rw [if_neg (by decide), if_neg (by decide)]
    simp only [numU, show ¬ ((99 : UInt8) = 115) by decide, show ¬ ((99 : UInt8) = 113) by decide, show ¬ ((99 : UInt8) = 97) by decide, show ¬ ((99 : UInt8) = 110) by decide, if_false, if_true]
    rw [Oct.num_enc (by omega)]
    simp [set1, okU, mostU, copy1]
    omega
  · rw [if_neg (by decide), if_neg (by decide)]
    simp only [numU, show ¬ ((121 : UInt8) = 115) by decide, show ¬ ((121 : UInt8) = 113) by decide, show ¬ ((121 : UInt8) = 97) by decide, show ¬ ((121 : UInt8) = 110) by decide, show ¬ ((121 : UInt8) = 99) by decide, if_false, if_true]
    rw [Oct.num_enc (by split <;> omega)]
    cases hy : r.yes <;> simp [set1, okU, mostU, copy1, hy]
  · rw [if_pos rfl, if_pos rfl, Oct.text_enc _ (by omega), if_neg (by omega)]
    simp [copy1]
theorem fold_put (r : Rec) (hi : r.in) (R : List UInt8) : ∀ (l : List UInt8) (s : Rec), (∀ c ∈ l, letter c) → l.foldl TS.step ⟨s, true, l.flatMap (recF r) ++ R, 0⟩ = ⟨l.foldl (copy1 r) s, true, R, 0⟩ := by
  intro l
  induction l with
  | nil => intro s _; simp
  | cons c l ih =>
    intro s h
    rw [List.foldl_cons, List.foldl_cons, List.flatMap_cons, List.append_assoc, step_put r s c (h c (by simp)) hi, ih _ (fun d hd => h d (by simp [hd]))]
theorem kind_rng {k : UInt8} (h : kindB k = true) : 17 ≤ k.toNat ∧ k.toNat ≤ 32 := by
  unfold kindB at h
  rw [Bool.and_eq_true, decide_eq_true_iff, decide_eq_true_iff] at h
  exact h
/-- What was put is taken as it was. -/
theorem take_put {r : Rec} (h : mayB r = true) (hok : r.ok) : takeR r.kind (recBody r) = (r, 0) := by
  have hk := (may_facts h hok).1
  obtain ⟨k1, k2⟩ := kind_rng hk
  unfold takeR
  rw [if_pos hk]
  have hf := fold_put r (may_in h hok) [] (fieldsOf r.kind) (Rec.zero r.kind) (fields_letter r.kind k1 k2)
  rw [List.append_nil] at hf
  unfold TS.all recBody
  rw [hf]
  unfold TS.fin Oct.endOf
  rw [if_neg (by simp), if_neg (by simp)]
  show (onlyOf r, (0 : Int)) = (r, 0)
  rw [may_only h]
/-- Records one behind the other. -/
theorem recItems_items (b : List UInt8) : recItems b = items [b] := rfl
theorem recC_puts (l : List Rec) : (l.map recC).flatten = putsAll ((l.filter mayB).map fun r => (r.kind, recBody r)) := by
  induction l with
  | nil => rfl
  | cons r l ih =>
    rw [List.map_cons, List.flatten_cons, ih]
    unfold recC
    by_cases h : mayB r = true
    · rw [if_pos h, List.filter_cons_of_pos h, List.map_cons, putsAll_cons]
    · rw [if_neg h, List.filter_cons_of_neg h]; rfl
theorem recAll_puts (l : List Rec) (hok : ∀ r ∈ l, r.ok) : recAll (l.map recC).flatten = (l.filter mayB, 0) := by
  have hm : ∀ r ∈ l.filter mayB, mayB r = true ∧ r.ok := fun r hr => ⟨(List.mem_filter.1 hr).2, hok r (List.mem_filter.1 hr).1⟩
  have hb : ∀ p ∈ (l.filter mayB).map fun r => (r.kind, recBody r), p.2.length ≤ 256 := by
    intro p hp
    obtain ⟨r, hr, rfl⟩ := List.mem_map.1 hp
    obtain ⟨h1, h2⟩ := hm r hr
    exact recBody_le (may_facts h1 h2).1 (may_facts h1 h2).2.2
  have hi : recItems (l.map recC).flatten = (l.filter mayB).map fun r => frameOf (r.kind, recBody r) := by
    rw [recItems_items, recC_puts, items_puts _ hb, List.map_map]; rfl
  have hfine : ∀ x ∈ recItems (l.map recC).flatten, x.fine := by
    rw [hi]
    intro x hx
    obtain ⟨r, hr, rfl⟩ := List.mem_map.1 hx
    obtain ⟨h1, h2⟩ := hm r hr
    exact ⟨rfl, by show (takeR r.kind (recBody r)).2 = 0; rw [take_put h1 h2]⟩
  rw [recAll_ok hfine, hi, List.map_map]
  congr 1
  have : ∀ r ∈ l.filter mayB, (It.took ∘ fun r => frameOf (r.kind, recBody r)) r = r := by
    intro r hr
    obtain ⟨h1, h2⟩ := hm r hr
    show (takeR r.kind (recBody r)).1 = r
    rw [take_put h1 h2]
  rw [List.map_congr_left this, List.map_id']
end Go.Proofs.YtdmpopdacbdnlaaDoor
