/- The laws' awake. -/
import Derived.Test.YtdondjodonmebaaOctRead
import Derived.Test.YtdondjodonmebaaOctSign
import Derived.Test.YtdondjodonmebaaOctPut2
namespace Go.Proofs.Ytdondjodonmebaa
open Go.RowKit
set_option linter.unusedVariables false
set_option linter.unusedSimpArgs false
set_option maxHeartbeats 2000000
set_option maxRecDepth 20000
theorem rowB_mk {w : World} {g len : Nat} {bs : List UInt8} (hg : g < w.heap.size) (hl : bs.length = len) (hm : len ≤ 1000) (hc : ∀ i, i < len → w.cell? ⟨g, i, none⟩ = some (.int .u8 ((bs.getD i 0).toNat : Int))) : RowB w (some ⟨g, 0, none⟩) len len bs :=
  ⟨hl, by unfold maxLen; omega, Nat.le_refl _, .inr ⟨g, 0, rfl, hg, fun i hi => by rw [Nat.zero_add]; exact hc i hi⟩, fun e => by cases e⟩
theorem takeV1 : takeV [249, 1, 44, 9] = .tuple #[.int .u64 300, .int .i64 3, .int .i64 0] := by rfl
theorem takeV2 : takeV [249, 0, 44] = .tuple #[.int .u64 0, .int .i64 0, .int .i64 11] := by rfl
theorem rText1 : rText [2, 97, 98, 7] 0 5 = ([97, 98], [7], 0) := by rfl
theorem encAll1 : encAll [5, 300] = [5, 249, 1, 44] := by rfl
theorem rowI_mk {k : IntKind} {w : World} {g len : Nat} {zs : List Int} (hg : g < w.heap.size) (hl : zs.length = len) (hm : len ≤ 1000) (hw : ∀ n ∈ zs, (Lit.int k n).wf = true) (hc : ∀ i, i < len → w.cell? ⟨g, i, none⟩ = some (.int k (zs.getD i 0))) : RowI k w (some ⟨g, 0, none⟩) len len zs :=
  ⟨hl, by unfold maxLen; omega, Nat.le_refl _, hw, .inr ⟨g, 0, rfl, hg, fun i hi => by rw [Nat.zero_add]; exact hc i hi⟩, fun e => by cases e⟩
theorem Rd.below {w w' : World} {g : Nat} {bs : List UInt8} {e : Int} (h : Rd w g bs e) (hb : Below w.heap.size w w') : Rd w' g bs e := by
  obtain ⟨hlt, ⟨q, len, cap, c0, hR, hq⟩, c1, f0, f1⟩ := h
  exact ⟨Nat.lt_of_lt_of_le hlt hb.size, ⟨q, len, cap, (hb.cell (p := ⟨g, 0, none⟩) hlt).trans c0, hR.below hb, hq⟩, (hb.cell (p := ⟨g, 1, none⟩) hlt).trans c1, (hb.frozen (p := ⟨g, 0, none⟩) hlt).trans f0, (hb.frozen (p := ⟨g, 1, none⟩) hlt).trans f1⟩
theorem awake_any (w : World) : Calls Try.prog 9 #[] w fun e w' => e = .returned (.bool true) ∧ Below w.heap.size w w' := by
  go_enter Try.func9, Try.ntmps9
  go_wp2_with fail
  refine (take_any _ 4 4 [249, 1, 44, 9] _ (rowB_mk (by simp) rfl (by omega) (fun i hi => by
    have h4 : i = 0 ∨ i = 1 ∨ i = 2 ∨ i = 3 := by omega
    rcases h4 with rfl | rfl | rfl | rfl <;> simp [go_sem]))).mono ?_; rintro e w1 ⟨rfl, rfl⟩
  rw [takeV1]
  go_wp2_with fail
  refine (take_any _ 3 3 [249, 0, 44] _ (rowB_mk (by simp) rfl (by omega) (fun i hi => by
    have h4 : i = 0 ∨ i = 1 ∨ i = 2 := by omega
    rcases h4 with rfl | rfl | rfl <;> simp [go_sem]))).mono ?_; rintro e w1 ⟨rfl, rfl⟩
  rw [takeV2]
  go_wp2_with fail
  refine (open_any _ 4 4 [2, 97, 98, 7] _ (rowB_mk (by simp) rfl (by omega) (fun i hi => by
    have h4 : i = 0 ∨ i = 1 ∨ i = 2 ∨ i = 3 := by omega
    rcases h4 with rfl | rfl | rfl | rfl <;> simp [go_sem])) (by omega)).mono ?_; rintro e w1 ⟨g, rfl, hg, hR1, hb1⟩
  have B1 : Below w.heap.size w w1 := by
    refine Below.trans ?_ (hb1.mono (by simp <;> omega))
    exact (by repeat (first | with_reducible exact Below.refl _ _ | with_reducible refine Below.drew ?_ | with_reducible refine Below.alloc ?_ (by (try simp) <;> omega) _ | with_reducible refine Below.setCell ?_ (by (try simp) <;> omega) _))
  have hg0 : w.heap.size ≤ g := by simp at hg; omega
  clear hb1
  go_wp2_with fail
  refine (text_any g _ 0 5 (by omega) w1 hR1).mono ?_; rintro e w2 ⟨rfl, hR2, hG2⟩
  rw [rText1] at hR2 ⊢
  have B2 : Below w.heap.size w w2 := B1.grown hG2 B1.size (fun k e => by cases e; exact hg0)
  go_wp2_with fail
  refine (puts_any _ 2 2 [5, 300] _ (rowI_mk (by simp) rfl (by omega) (by decide) (fun i hi => by
    have h4 : i = 0 ∨ i = 1 := by omega
    rcases h4 with rfl | rfl <;> simp [go_sem])) (by omega)).mono ?_; rintro e w3 ⟨v3, rfl, hO3, hb3⟩
  rw [encAll1] at hO3
  obtain ⟨q3, c3, rfl, hR3, _⟩ := hO3.row
  have hcv : (convert 27 9 (.slice q3 [5, 249, 1, (44 : UInt8)].length c3)).run Try.prog w3 = .ok (.string ⟨[5, 249, 1, (44 : UInt8)].toArray⟩) w3 := hR3.conv 27 9 5 Try.underlying27 Try.underlying5 Try.underlying9
  simp only [List.length_cons, List.length_nil] at hcv
  have B3 : Below w.heap.size w w3 := by
    refine Below.trans (Below.alloc B2 B2.size _) (hb3.mono (by have := B2.size; simp; omega))
  have z2 := B2.size
  have hR4 : Rd w3 g [7] 0 := hR2.below (by
    refine Below.trans ?_ (hb3.mono (by simp))
    exact (by repeat (first | with_reducible exact Below.refl _ _ | with_reducible refine Below.drew ?_ | with_reducible refine Below.alloc ?_ (by (try simp) <;> omega) _ | with_reducible refine Below.setCell ?_ (by (try simp) <;> omega) _)))
  clear hO3 hb3 hR2 hG2
  go_wp2_with fail
  refine (left_any g [7] 0 w3 hR4).mono ?_; rintro e w4 ⟨rfl, rfl⟩
  go_wp2_with fail
  refine (end_any g [7] 0 w3 hR4).mono ?_; rintro e w4 ⟨rfl, rfl⟩
  rw [show endOf [7] 0 = 12 from rfl]
  go_wp2_with fail
  refine (sign_any (-3) (by omega) (by omega) w3).mono ?_; rintro e w4 ⟨rfl, rfl⟩
  rw [show signOf (-3) = 5 from rfl]
  go_wp2_with fail
  refine (plain_any 5 (by omega) (by omega) w3).mono ?_; rintro e w4 ⟨rfl, rfl⟩
  rw [show plainOf 5 = -3 from rfl]
  go_wp2_with fail
  go_ret
  exact ⟨rfl, B3⟩
end Go.Proofs.Ytdondjodonmebaa
