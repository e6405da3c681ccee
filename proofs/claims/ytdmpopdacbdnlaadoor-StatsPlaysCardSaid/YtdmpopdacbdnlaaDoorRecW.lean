/- Of the record laws: plain, == of the reference's records, records at a place. -/
import Derived.Test.YtdmpopdacbdnlaaDoorRecAll
import Derived.Test.YtdmpopdacbdnlaaDoorRecShow
import Derived.Test.YtdmpopdacbdnlaaDoorRecBackLaw
namespace Go.Proofs.YtdmpopdacbdnlaaDoor
open Go.RowKit
set_option linter.unusedVariables false
set_option linter.unusedSimpArgs false
set_option maxHeartbeats 4000000
set_option maxRecDepth 20000
theorem eqlX (W : World) (a b : Rec) : (binOp .eql 71 (recA a) (recA b)).run Tryd.prog W = .ok (.bool (eqRec a b)) W := by
  obtain ⟨a0, a1, a2, a3, a4, a5, a6, a7⟩ := a
  obtain ⟨b0, b1, b2, b3, b4, b5, b6, b7⟩ := b
  unfold recA eqRec
  rw [run_eql_struct]
  simp only
  have e0 : ((a0.toNat : Int) == (b0.toNat : Int)) = decide (a0 = b0) := by
    rw [Bool.eq_iff_iff, beq_iff_eq, decide_eq_true_iff]
    exact ⟨fun h => UInt8.toNat_inj.1 (by omega), fun h => by rw [h]⟩
  have e2 : ((a2 : Int) == (b2 : Int)) = decide (a2 = b2) := by
    rw [Bool.eq_iff_iff, beq_iff_eq, decide_eq_true_iff]; omega
  have e7 : ((⟨a7.toArray⟩ : ByteArray).toList == (⟨b7.toArray⟩ : ByteArray).toList) = decide (a7 = b7) := by
    rw [ByteArray.toList_eq, ByteArray.toList_eq, Bool.eq_iff_iff, beq_iff_eq, decide_eq_true_iff]
  simp [go_sem, Op.eqFields, e0, e2, e7]
  by_cases h0 : a0 = b0
  rotate_left
  · simp [h0]
  by_cases h1 : a1 = b1
  rotate_left
  · simp [h0, h1]
  by_cases h2 : a2 = b2
  rotate_left
  · simp [h0, h1, h2]
  by_cases h3 : a3 = b3
  rotate_left
  · simp [h0, h1, h2, h3]
  by_cases h4 : a4 = b4
  rotate_left
  · simp [h0, h1, h2, h3, h4]
  by_cases h5 : a5 = b5
  rotate_left
  · simp [h0, h1, h2, h3, h4, h5]
  by_cases h6 : a6 = b6
  rotate_left
  · simp [h0, h1, h2, h3, h4, h5, h6]
  by_cases h7 : a7 = b7
  rotate_left
  · simp [h0, h1, h2, h3, h4, h5, h6, h7]
  simp [h0, h1, h2, h3, h4, h5, h6, h7]
theorem neqX (W : World) (a b : Rec) : (binOp .neq 71 (recA a) (recA b)).run Tryd.prog W = .ok (.bool (!eqRec a b)) W := by
  have h := eqlX W a b
  unfold recA at h ⊢
  rw [run_eql_struct] at h
  rw [run_neq_struct]
  revert h
  generalize (Op.equalIn 10000 71 _ _).run Tryd.prog W = R
  cases R <;> simp [Result.andThen]
theorem neqRec (W : World) (a b : Rec) : (binOp .neq 69 (recA a) (recA b)).run Tryd.prog W = .ok (.bool (!eqRec a b)) W := by
  have h := eqlRec W a b
  unfold recA at h ⊢
  rw [run_eql_struct] at h
  rw [run_neq_struct]
  revert h
  generalize (Op.equalIn 10000 69 _ _).run Tryd.prog W = R
  cases R <;> simp [Result.andThen]
/-- plain -/
theorem rplain_any (r : Rec) (w : World) : Calls Tryd.prog 54 #[recA r] w fun e w' => e = .returned (recA r) ∧ Below w.heap.size w w' := by
  unfold recA
  go_enter Tryd.func54, Tryd.ntmps54
  go_wp2_with fail
  exact bodyPost_ret (v := recA r) (by simp [results, Tryd.results54, go_sem, recA]) rfl ⟨rfl, by repeat (first | exact Below.refl _ _ | with_reducible refine Below.alloc ?_ (by (try simp) <;> omega) _ | with_reducible refine Below.setCell ?_ (by (try simp) <;> omega) _)⟩
theorem RecAt.below {w w' : World} {b o : Nat} {r : Rec} (h : RecAt w b o r) (hb : Below w.heap.size w w') (hl : b < w.heap.size) : RecAt w' b o r := h.turn (Turn.ofBelow (S := fun _ => False) hb rfl) hl (fun h => h)
theorem Box.rec_ {w : World} {b : Nat} {r : Rec} (h : Box w b (recVs r)) : RecAt w b 0 r := by
  have c := fun i v hv => h.cell i v hv
  exact ⟨c 0 _ rfl, c 1 _ rfl, c 2 _ rfl, c 3 _ rfl, c 4 _ rfl, c 5 _ rfl, c 6 _ rfl, c 7 _ rfl⟩
theorem RowG.rec_ {w : World} {q : Option Addr} {n : Nat} {l : List Rec} (h : RowG 8 w q n (l.map recVs)) (h0 : 0 < n) : ∃ b off, q = some ⟨b, off, none⟩ ∧ b < w.heap.size ∧ ∀ i, i < n → RecAt w b (off + i * 8) (l.getD i (Rec.zero 0)) := by
  obtain ⟨b, off, hq, hb, hc⟩ := h.get h0
  have hl := h.length
  rw [List.length_map] at hl
  refine ⟨b, off, hq, hb, fun i hi => ?_⟩
  have hi' : i < l.length := by omega
  have e : (l.map recVs).getD i [] = recVs (l.getD i (Rec.zero 0)) := by simp [List.getD, hi']
  have c := hc i hi
  rw [e] at c
  exact ⟨c 0 _ rfl, c 1 _ rfl, c 2 _ rfl, c 3 _ rfl, c 4 _ rfl, c 5 _ rfl, c 6 _ rfl, c 7 _ rfl⟩
end Go.Proofs.YtdmpopdacbdnlaaDoor
