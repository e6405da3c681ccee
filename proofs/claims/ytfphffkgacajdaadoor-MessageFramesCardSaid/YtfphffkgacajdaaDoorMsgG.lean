/- MsgMay, MsgSame, MsgSame2, MsgPutM, MsgPut, MsgPut2. -/
import Derived.Test.YtfphffkgacajdaaDoorLabG
import Derived.Test.YtfphffkgacajdaaDoorOctG
/- message.May and the reference's. -/
namespace Go.Proofs.YtfphffkgacajdaaDoor
open Go.RowKit
set_option linter.unusedVariables false
set_option linter.unusedSimpArgs false
set_option maxHeartbeats 4000000
set_option maxRecDepth 20000
theorem natZ (n : Nat) : ((n : Int) == 0) = decide (n = 0) := by cases n with | zero => rfl | succ k => simp; omega
structure Msg.ok (m : Msg) : Prop where
  seq : m.seq ≤ 18446744073709551615
  at_ : -9223372036854775808 ≤ m.at_ ∧ m.at_ ≤ 9223372036854775807
  props : okPs m.props
  names : ∀ i, (m.props.getD i prD).name.length ≤ 1000000000
def msgV (m : Msg) (q : Option Addr) (n c : Nat) : Value := .agg #[.int .u8 (m.kind.toNat : Int), .int .u64 (m.seq : Int), .int .i64 m.at_, .slice q n c]
theorem nil_len {ps : List Pr} {n : Nat} (h : ps.length = n) : (ps = []) ↔ (n = 0) := by
  subst h; exact List.length_eq_zero_iff.symm
theorem mmay_any (m : Msg) (q : Option Addr) (n c : Nat) (w : World) (hok : m.ok) (hR : RowQ w q n m.props) :
    Calls Tryd.prog 19 #[msgV m q n c] w fun e w' => e = .returned (.bool (mayM m)) ∧ Below w.heap.size w w' := by
  obtain ⟨k, s, a, l⟩ := m
  have hl := hR.length
  have hnil := nil_len hl
  have hs := hok.seq
  have ha := hok.at_
  have hsm := RowG.small hR
  unfold maxLen at hsm
  simp only at hs ha hl hR
  unfold msgV mayM
  simp only [hnil]
  by_cases k1 : k = 1
  · subst k1
    rw [if_pos rfl]
    clear hnil
    go_enter Tryd.func19, Tryd.ntmps19
    go_wp2_with fail
    all_goals (go_ret; exact ⟨by simp [*, natZ] <;> (intros; omega), (by repeat (first | with_reducible exact Below.refl _ _ | with_reducible refine Below.drew ?_ | with_reducible refine Below.alloc ?_ (by (try simp) <;> omega) _ | with_reducible refine Below.setCell ?_ (by (try simp) <;> omega) _))⟩)
  rw [if_neg k1]
  by_cases k2 : k = 2
  · subst k2
    rw [if_pos rfl, hl]
    have hRT := fun W h => right_any q n c l W h hok.props hok.names
    generalize rightB l = r at *
    replace hRT := Lib.hid hRT
    replace hR := Lib.hid hR
    clear hnil hok hl
    by_cases h8 : 8 < n
    · have h8' : (8 : Int) < (n : Int) := by omega
      rw [decide_eq_false (show ¬ n ≤ 8 by omega)]
      go_enter Tryd.func19, Tryd.ntmps19
      go_wp2_with fail
      go_ret
      exact ⟨rfl, (by repeat (first | with_reducible exact Below.refl _ _ | with_reducible refine Below.drew ?_ | with_reducible refine Below.alloc ?_ (by (try simp) <;> omega) _ | with_reducible refine Below.setCell ?_ (by (try simp) <;> omega) _))⟩
    have h8' : ¬ (8 : Int) < (n : Int) := by omega
    rw [decide_eq_true (show n ≤ 8 by omega)]
    obtain ⟨W1, eW1⟩ : ∃ W, w.alloc (.cells #[.int .u8 2, .int .u64 (s : Int), .int .i64 a, .slice q n c] 25) = W := ⟨_, rfl⟩
    have z1 : W1.heap.size = w.heap.size + 1 := by rw [← eW1]; simp
    have B1 : Below w.heap.size w W1 := by rw [← eW1]; exact (Below.refl _ _).alloc (Nat.le_refl _) _
    have a0 : W1.cell? ⟨w.heap.size, 0, none⟩ = some (.int .u8 2) := by rw [← eW1]; simp [go_sem]
    have a1 : W1.cell? ⟨w.heap.size, 1, none⟩ = some (.int .u64 (s : Int)) := by rw [← eW1]; simp [go_sem]
    have a2 : W1.cell? ⟨w.heap.size, 2, none⟩ = some (.int .i64 a) := by rw [← eW1]; simp [go_sem]
    have a3 : W1.cell? ⟨w.heap.size, 3, none⟩ = some (.slice q n c) := by rw [← eW1]; simp [go_sem]
    obtain ⟨W2, eW2⟩ : ∃ W, W1.alloc (.cells #[.int .u8 2, .int .u64 (s : Int), .int .i64 a, .slice q n c] 25) = W := ⟨_, rfl⟩
    have z2 : W2.heap.size = w.heap.size + 2 := by rw [← eW2]; simp [z1]
    have B12 : Below W1.heap.size W1 W2 := by rw [← eW2]; exact (Below.refl _ _).alloc (Nat.le_refl _) _
    have B2 : Below w.heap.size w W2 := B1.trans (B12.mono B1.size)
    have b0 := (B12.cell (p := ⟨w.heap.size, 0, none⟩) (by simp; omega)).trans a0
    have b2 := (B12.cell (p := ⟨w.heap.size, 2, none⟩) (by simp; omega)).trans a2
    have b3 := (B12.cell (p := ⟨w.heap.size, 3, none⟩) (by simp; omega)).trans a3
    have d0 : W2.cell? ⟨w.heap.size + 1, 0, none⟩ = some (.int .u8 2) := by rw [← eW2, ← z1]; simp [go_sem]
    have d1 : W2.cell? ⟨w.heap.size + 1, 1, none⟩ = some (.int .u64 (s : Int)) := by rw [← eW2, ← z1]; simp [go_sem]
    have d2 : W2.cell? ⟨w.heap.size + 1, 2, none⟩ = some (.int .i64 a) := by rw [← eW2, ← z1]; simp [go_sem]
    have d3 : W2.cell? ⟨w.heap.size + 1, 3, none⟩ = some (.slice q n c) := by rw [← eW2, ← z1]; simp [go_sem]
    have f1 : W2.frozen? ⟨w.heap.size + 1, 1, none⟩ = false := by rw [← eW2, ← z1]; simp [go_sem]
    have f2 : W2.frozen? ⟨w.heap.size + 1, 2, none⟩ = false := by rw [← eW2, ← z1]; simp [go_sem]
    have f3 : W2.frozen? ⟨w.heap.size + 1, 3, none⟩ = false := by rw [← eW2, ← z1]; simp [go_sem]
    go_enter Tryd.func19, Tryd.ntmps19
    go_wp2_with fail
    refine (hRT.out _ (hR.out.below B2)).mono ?_; rintro e w5 ⟨rfl, hb5⟩
    have B5 := B2.trans (hb5.mono B2.size)
    have x2 := (hb5.cell (p := ⟨w.heap.size, 2, none⟩) (by simp; omega)).trans b2
    have y1 := (hb5.cell (p := ⟨w.heap.size + 1, 1, none⟩) (by simp; omega)).trans d1
    have y2 := (hb5.cell (p := ⟨w.heap.size + 1, 2, none⟩) (by simp; omega)).trans d2
    have y3 := (hb5.cell (p := ⟨w.heap.size + 1, 3, none⟩) (by simp; omega)).trans d3
    have g1 := (hb5.frozen (p := ⟨w.heap.size + 1, 1, none⟩) (by simp; omega)).trans f1
    have g2 := (hb5.frozen (p := ⟨w.heap.size + 1, 2, none⟩) (by simp; omega)).trans f2
    have g3 := (hb5.frozen (p := ⟨w.heap.size + 1, 3, none⟩) (by simp; omega)).trans f3
    have z5 := hb5.size
    cases r with
    | false =>
      go_wp2_with fail
      go_ret
      exact ⟨rfl, B5⟩
    | true =>
      by_cases h0 : a < 0
      · go_wp2_with fail
        go_ret
        exact ⟨by simp [h0], (B5.setCell (by simp) _).setCell (by simp) _⟩
      go_wp2_with fail
      go_ret
      exact ⟨by simp; omega, ((B5.setCell (by simp) _).setCell (by simp) _).setCell (by simp) _⟩
  rw [if_neg k2]
  have kk1 : ¬ (k.toNat : Int) = 1 := fun e => k1 (UInt8.toNat_inj.1 (show k.toNat = 1 by omega))
  have kk2 : ¬ (k.toNat : Int) = 2 := fun e => k2 (UInt8.toNat_inj.1 (show k.toNat = 2 by omega))
  by_cases k3 : k = 3
  · subst k3
    rw [if_pos rfl]
    clear hnil kk1 kk2
    go_enter Tryd.func19, Tryd.ntmps19
    go_wp2_with fail
    all_goals (go_ret; exact ⟨by simp [*, natZ] <;> (intros; omega), (by repeat (first | with_reducible exact Below.refl _ _ | with_reducible refine Below.drew ?_ | with_reducible refine Below.alloc ?_ (by (try simp) <;> omega) _ | with_reducible refine Below.setCell ?_ (by (try simp) <;> omega) _))⟩)
  rw [if_neg k3]
  have kk3 : ¬ (k.toNat : Int) = 3 := fun e => k3 (UInt8.toNat_inj.1 (show k.toNat = 3 by omega))
  by_cases k4 : k = 4
  · subst k4
    rw [if_pos rfl]
    clear hnil kk1 kk2 kk3
    go_enter Tryd.func19, Tryd.ntmps19
    go_wp2_with fail
    all_goals (go_ret; exact ⟨by simp [*, natZ] <;> (intros; omega), (by repeat (first | with_reducible exact Below.refl _ _ | with_reducible refine Below.drew ?_ | with_reducible refine Below.alloc ?_ (by (try simp) <;> omega) _ | with_reducible refine Below.setCell ?_ (by (try simp) <;> omega) _))⟩)
  rw [if_neg k4]
  have kk4 : ¬ (k.toNat : Int) = 4 := fun e => k4 (UInt8.toNat_inj.1 (show k.toNat = 4 by omega))
  clear hnil
  go_enter Tryd.func19, Tryd.ntmps19
  go_wp2_with fail
  go_ret
  exact ⟨rfl, (by repeat (first | with_reducible exact Below.refl _ _ | with_reducible refine Below.drew ?_ | with_reducible refine Below.alloc ?_ (by (try simp) <;> omega) _ | with_reducible refine Below.setCell ?_ (by (try simp) <;> omega) _))⟩
/-- the reference's May -/
theorem rmmay_any (m : Msg) (q : Option Addr) (n c : Nat) (w : World) (hok : m.ok) (hR : RowQ w q n m.props) :
    Calls Tryd.prog 17 #[msgV m q n c] w fun e w' => e = .returned (.bool (mayM m)) ∧ Below w.heap.size w w' := by
  rw [← mayM_eq]
  obtain ⟨k, s, a, l⟩ := m
  have hl := hR.length
  have hs := hok.seq
  have ha := hok.at_
  have hsm := RowG.small hR
  unfold maxLen at hsm
  simp only at hs ha hl hR
  unfold msgV refMayM
  simp only [hl]
  have hRT := fun W h => rright_any q n c l W h hok.names
  generalize rightB l = r at *
  replace hRT := Lib.hid hRT
  replace hR := Lib.hid hR
  clear hok
  replace hl := Lib.hid hl
  generalize hr0 : (if a < 0 ∨ 8 < n ∨ r = false then false else if k = 1 then decide (a = 0 ∧ n = 0) else if k = 2 then true else if k = 3 then decide (s = 0 ∧ n = 0) else decide (k = 4 ∧ s = 0 ∧ a = 0 ∧ n = 0)) = res
  replace hr0 := Lib.hid hr0
  by_cases h0 : a < 0
  · have e : false = res := by rw [← hr0.out, if_pos (Or.inl h0)]
    replace e := Lib.hid e
    go_enter Tryd.func17, Tryd.ntmps17
    go_wp2_with fail
    go_ret
    exact ⟨by rw [← e.out]; rfl, (by repeat (first | with_reducible exact Below.refl _ _ | with_reducible refine Below.drew ?_ | with_reducible refine Below.alloc ?_ (by (try simp) <;> omega) _ | with_reducible refine Below.setCell ?_ (by (try simp) <;> omega) _))⟩
  by_cases h8 : 8 < n
  · have e : false = res := by rw [← hr0.out, if_pos (Or.inr (Or.inl h8))]
    replace e := Lib.hid e
    have h8' : (8 : Int) < (n : Int) := by omega
    go_enter Tryd.func17, Tryd.ntmps17
    go_wp2_with fail
    go_ret
    exact ⟨by rw [← e.out]; rfl, (by repeat (first | with_reducible exact Below.refl _ _ | with_reducible refine Below.drew ?_ | with_reducible refine Below.alloc ?_ (by (try simp) <;> omega) _ | with_reducible refine Below.setCell ?_ (by (try simp) <;> omega) _))⟩
  have h8' : ¬ (8 : Int) < (n : Int) := by omega
  obtain ⟨W1, eW1⟩ : ∃ W, w.alloc (.cells #[.int .u8 (k.toNat : Int), .int .u64 (s : Int), .int .i64 a, .slice q n c] 28) = W := ⟨_, rfl⟩
  have z1 : W1.heap.size = w.heap.size + 1 := by rw [← eW1]; simp
  have B1 : Below w.heap.size w W1 := by rw [← eW1]; exact (Below.refl _ _).alloc (Nat.le_refl _) _
  have a0 : W1.cell? ⟨w.heap.size, 0, none⟩ = some (.int .u8 (k.toNat : Int)) := by rw [← eW1]; simp [go_sem]
  have a1 : W1.cell? ⟨w.heap.size, 1, none⟩ = some (.int .u64 (s : Int)) := by rw [← eW1]; simp [go_sem]
  have a2 : W1.cell? ⟨w.heap.size, 2, none⟩ = some (.int .i64 a) := by rw [← eW1]; simp [go_sem]
  have a3 : W1.cell? ⟨w.heap.size, 3, none⟩ = some (.slice q n c) := by rw [← eW1]; simp [go_sem]
  go_enter Tryd.func17, Tryd.ntmps17
  go_wp2_with fail
  refine (hRT.out _ (hR.out.below B1)).mono ?_; rintro e w5 ⟨rfl, hb5⟩
  have B5 := B1.trans (hb5.mono B1.size)
  have y0 := (hb5.cell (p := ⟨w.heap.size, 0, none⟩) (by simp; omega)).trans a0
  have y1 := (hb5.cell (p := ⟨w.heap.size, 1, none⟩) (by simp; omega)).trans a1
  have y2 := (hb5.cell (p := ⟨w.heap.size, 2, none⟩) (by simp; omega)).trans a2
  have y3 := (hb5.cell (p := ⟨w.heap.size, 3, none⟩) (by simp; omega)).trans a3
  clear a0 a1 a2 a3
  cases r with
  | false =>
    have e : false = res := by rw [← hr0.out, if_pos (Or.inr (Or.inr rfl))]
    replace e := Lib.hid e
    go_wp2_with fail
    go_ret
    exact ⟨by rw [← e.out]; rfl, B5⟩
  | true =>
    have e : _ = res := hr0.out
    rw [if_neg (by simp; omega)] at e
    by_cases k1 : k = 1
    · subst k1
      rw [if_pos rfl] at e
      replace e := Lib.hid e
      have y0' : w5.cell? ⟨w.heap.size, 0, none⟩ = some (.int .u8 1) := y0
      clear y0
      go_wp2_with fail
      all_goals (go_ret; exact ⟨by rw [← e.out]; simp [*, natZ] <;> (intros; omega), B5⟩)
    rw [if_neg k1] at e
    by_cases k2 : k = 2
    · subst k2
      rw [if_pos rfl] at e
      replace e := Lib.hid e
      have y0' : w5.cell? ⟨w.heap.size, 0, none⟩ = some (.int .u8 2) := y0
      clear y0
      go_wp2_with fail
      all_goals (go_ret; exact ⟨by rw [← e.out]; simp [*, natZ] <;> (intros; omega), B5⟩)
    rw [if_neg k2] at e
    by_cases k3 : k = 3
    · subst k3
      rw [if_pos rfl] at e
      replace e := Lib.hid e
      have y0' : w5.cell? ⟨w.heap.size, 0, none⟩ = some (.int .u8 3) := y0
      clear y0
      go_wp2_with fail
      all_goals (go_ret; exact ⟨by rw [← e.out]; simp [*, natZ] <;> (intros; omega), B5⟩)
    rw [if_neg k3] at e
    by_cases k4 : k = 4
    · subst k4
      replace e := Lib.hid e
      have y0' : w5.cell? ⟨w.heap.size, 0, none⟩ = some (.int .u8 4) := y0
      clear y0
      go_wp2_with fail
      all_goals (go_ret; exact ⟨by rw [← e.out]; simp [*, natZ] <;> (intros; omega), B5⟩)
    have kk1 : ¬ (k.toNat : Int) = 1 := fun e => k1 (UInt8.toNat_inj.1 (show k.toNat = 1 by omega))
    have kk2 : ¬ (k.toNat : Int) = 2 := fun e => k2 (UInt8.toNat_inj.1 (show k.toNat = 2 by omega))
    have kk3 : ¬ (k.toNat : Int) = 3 := fun e => k3 (UInt8.toNat_inj.1 (show k.toNat = 3 by omega))
    have kk4 : ¬ (k.toNat : Int) = 4 := fun e => k4 (UInt8.toNat_inj.1 (show k.toNat = 4 by omega))
    rw [decide_eq_false (show ¬ (k = 4 ∧ s = 0 ∧ a = 0 ∧ n = 0) from fun h => k4 h.1)] at e
    replace e := Lib.hid e
    clear k1 k2 k3 k4
    go_wp2_with fail
    all_goals (go_ret; exact ⟨by rw [← e.out]; simp [*, natZ] <;> (intros; omega), B5⟩)
end Go.Proofs.YtfphffkgacajdaaDoor
/- The reference's Same: of two slices of propositions, of two messages; the laws' plain. -/
namespace Go.Proofs.YtfphffkgacajdaaDoor
open Go.RowKit
set_option linter.unusedVariables false
set_option linter.unusedSimpArgs false
set_option maxHeartbeats 4000000
set_option maxRecDepth 20000
theorem neqP (W : World) (a b : Pr) : (binOp .neq 80 (prA a) (prA b)).run Tryd.prog W = .ok (.bool (!decide (a = b))) W := by
  obtain ⟨an, av⟩ := a
  obtain ⟨bn, bv⟩ := b
  unfold prA
  rw [run_neq_struct]
  have e7 : ((⟨an.toArray⟩ : ByteArray).toList == (⟨bn.toArray⟩ : ByteArray).toList) = decide (an = bn) := by
    rw [ByteArray.toList_eq, ByteArray.toList_eq, Bool.eq_iff_iff, beq_iff_eq, decide_eq_true_iff]
  simp [go_sem, Op.eqFields, e7]
  by_cases h0 : an = bn <;> by_cases h1 : av = bv <;> simp [h0, h1, Pr.mk.injEq]
theorem ps_ne {ps1 ps2 : List Pr} {k : Nat} (h : ps1.getD k prD ≠ ps2.getD k prD) : ps1 ≠ ps2 := fun e => h (by rw [e])
theorem ps_eq {ps1 ps2 : List Pr} (hl : ps1.length = ps2.length) (h : ∀ j, j < ps1.length → ps1.getD j prD = ps2.getD j prD) : ps1 = ps2 := by
  apply List.ext_getElem hl
  intro i h1 h2
  have := h i h1
  simpa [List.getD, h1, h2] using this
theorem rsame5_any (q1 : Option Addr) (n1 c1 : Nat) (ps1 : List Pr) (q2 : Option Addr) (n2 c2 : Nat) (ps2 : List Pr) (w : World) (hR1 : RowQ w q1 n1 ps1) (hR2 : RowQ w q2 n2 ps2) (b : Bool) (hb : (b = true) ↔ ps1 = ps2) :
    Calls Tryd.prog 62 #[.slice q1 n1 c1, .slice q2 n2 c2] w fun e w' => e = .returned (.bool b) ∧ Below w.heap.size w w' := by
  have LL1 := Lib.hid hR1.length
  have LL2 := Lib.hid hR2.length
  have hsm := RowG.small hR1
  unfold maxLen at hsm
  replace hb := Lib.hid hb
  have hno : ps1 ≠ ps2 → b = false := fun h => by rw [Bool.eq_false_iff]; exact fun e => h (hb.out.1 e)
  replace hno := Lib.hid hno
  by_cases hne : n1 = n2
  · subst hne
    go_enter Tryd.func62, Tryd.ntmps62
    go_wp2_with fail
    go_loopw [5] (fun i wr => ∃ k : Nat, k ≤ n1 ∧ i = .int .i64 k ∧ (∀ j, j < k → ps1.getD j prD = ps2.getD j prD) ∧ Below w.heap.size w wr) (fun i wr => n1 - (intOf i).toNat)
    case atStart => exact ⟨0, Nat.zero_le _, rfl, fun j hj => by omega, Below.refl _ _⟩
    case round =>
      obtain ⟨k, hk, rfl, hall, hB⟩ := hrel
      have HALL := Lib.hid hall
      clear hall
      by_cases hlt : k < n1
      · obtain ⟨b1, o1, rfl, hb1, hc1⟩ := hR1.at_ (by omega)
        obtain ⟨b2, o2, rfl, hb2, hc2⟩ := hR2.at_ (by omega)
        have hk0 : (0 : Int) ≤ (k : Int) := by omega
        have hk1 : (k : Int) < (n1 : Int) := by omega
        have hbr1 : b1 < wr.heap.size := Nat.lt_of_lt_of_le hb1 hB.size
        have hbr2 : b2 < wr.heap.size := Nat.lt_of_lt_of_le hb2 hB.size
        have a0 := (hB.cell (p := ⟨b1, o1 + k * 2, none⟩) hb1).trans (hc1 k hlt).1
        have a1 := (hB.cell (p := ⟨b1, o1 + k * 2 + 1, none⟩) hb1).trans (hc1 k hlt).2
        have d0 := (hB.cell (p := ⟨b2, o2 + k * 2, none⟩) hb2).trans (hc2 k hlt).1
        have d1 := (hB.cell (p := ⟨b2, o2 + k * 2 + 1, none⟩) hb2).trans (hc2 k hlt).2
        have hwk : IntKind.i64.wrap (k : Int) = (k : Int) := IntWalk.i64_in _ (by omega)
        have heq := fun W => neqP W (ps1.getD k prD) (ps2.getD k prD)
        generalize hp1 : ps1.getD k prD = p1 at *
        generalize hp2 : ps2.getD k prD = p2 at *
        replace hp1 := Lib.hid hp1
        replace hp2 := Lib.hid hp2
        generalize hz : decide (p1 = p2) = z at *
        replace hz := Lib.hid hz
        unfold prA at heq
        clear hc1 hc2 hR1 hR2
        have E : ∀ W, Below wr.heap.size wr W → W.cell? ⟨b1, o1 + k * 2, none⟩ = some (.string ⟨p1.name.toArray⟩) ∧ W.cell? ⟨b1, o1 + k * 2 + 1, none⟩ = some (.int .i64 p1.value) ∧ W.cell? ⟨b2, o2 + k * 2, none⟩ = some (.string ⟨p2.name.toArray⟩) ∧ W.cell? ⟨b2, o2 + k * 2 + 1, none⟩ = some (.int .i64 p2.value) := fun W hW =>
          ⟨(hW.cell (p := ⟨b1, o1 + k * 2, none⟩) hbr1).trans a0, (hW.cell (p := ⟨b1, o1 + k * 2 + 1, none⟩) hbr1).trans a1, (hW.cell (p := ⟨b2, o2 + k * 2, none⟩) hbr2).trans d0, (hW.cell (p := ⟨b2, o2 + k * 2 + 1, none⟩) hbr2).trans d1⟩
        replace E := Lib.hid E
        have HD : Below wr.heap.size wr wr.drew := (Below.refl _ _).drew
        go_wp2_with fail
        refine wp_region_noPanic ?_
        refine wp_region_held_drew (S := fun W => W.cell? ⟨b1, o1 + k * 2, none⟩ = some (.string ⟨p1.name.toArray⟩) ∧ W.cell? ⟨b1, o1 + k * 2 + 1, none⟩ = some (.int .i64 p1.value) ∧ W.cell? ⟨b2, o2 + k * 2, none⟩ = some (.string ⟨p2.name.toArray⟩) ∧ W.cell? ⟨b2, o2 + k * 2 + 1, none⟩ = some (.int .i64 p2.value)) (by kernel_rfl) (E.out _ HD) (fun hHeld => ?_)
        refine wpAnyH_take (i := 0) (oi := ⟨some 17, _, _, _, _, _⟩) (v := ?_) rfl (by kernel_rfl) (by kernel_rfl) (by kernel_rfl) (fun _ _ _ h => h) (Or.inl ⟨by rfl, ?hyt0⟩) (by assumption) ?_; (case hyt0 => ((intro W hSW; (try dsimp only at hSW); obtain ⟨s1, s2, s3, s4⟩ := hSW; go_simp); (all_goals with_reducible rfl))); (try simp only [Act.put, List.setIfInBounds_toArray, List.set_cons_zero, List.set_cons_succ])
        refine wpAnyH_take (i := 1) (oi := ⟨some 18, _, _, _, _, _⟩) (v := ?_) rfl (by kernel_rfl) (by kernel_rfl) (by kernel_rfl) (fun _ _ _ h => h) (Or.inl ⟨by rfl, ?hyt1⟩) (by assumption) ?_; (case hyt1 => ((intro W hSW; (try dsimp only at hSW); obtain ⟨s1, s2, s3, s4⟩ := hSW; go_simp); (all_goals with_reducible rfl))); (try simp only [Act.put, List.setIfInBounds_toArray, List.set_cons_zero, List.set_cons_succ])
        refine wpAnyH_take (i := 2) (oi := ⟨some 19, _, _, _, _, _⟩) (v := ?_) rfl (by kernel_rfl) (by kernel_rfl) (by kernel_rfl) (fun _ _ _ h => h) (Or.inl ⟨by rfl, ?hyt2⟩) (by assumption) ?_; (case hyt2 => ((intro W hSW; (try dsimp only at hSW); obtain ⟨s1, s2, s3, s4⟩ := hSW; go_simp); (all_goals with_reducible rfl))); (try simp only [Act.put, List.setIfInBounds_toArray, List.set_cons_zero, List.set_cons_succ])
        refine wpAnyH_take (i := 3) (oi := ⟨some 20, _, _, _, _, _⟩) (v := ?_) rfl (by kernel_rfl) (by kernel_rfl) (by kernel_rfl) (fun _ _ _ h => h) (Or.inl ⟨by rfl, ?hyt3⟩) (by assumption) ?_; (case hyt3 => ((intro W hSW; (try dsimp only at hSW); obtain ⟨s1, s2, s3, s4⟩ := hSW; go_simp); (all_goals with_reducible rfl))); (try simp only [Act.put, List.setIfInBounds_toArray, List.set_cons_zero, List.set_cons_succ])
        refine wpAnyH_take (i := 4) (oi := ⟨some 21, _, _, _, _, _⟩) (v := ?_) rfl (by kernel_rfl) (by kernel_rfl) (by kernel_rfl) (fun _ _ _ h => h) (Or.inl ⟨by rfl, ?hyt4⟩) (by assumption) ?_; (case hyt4 => ((intro W hSW; (try dsimp only at hSW); obtain ⟨s1, s2, s3, s4⟩ := hSW; go_simp); (all_goals with_reducible rfl))); (try simp only [Act.put, List.setIfInBounds_toArray, List.set_cons_zero, List.set_cons_succ])
        refine wpAnyH_take (i := 5) (oi := ⟨some 22, _, _, _, _, _⟩) (v := ?_) rfl (by kernel_rfl) (by kernel_rfl) (by kernel_rfl) (fun _ _ _ h => h) (Or.inl ⟨by rfl, ?hyt5⟩) (by assumption) ?_; (case hyt5 => ((intro W hSW; (try dsimp only at hSW); obtain ⟨s1, s2, s3, s4⟩ := hSW; go_simp); (all_goals with_reducible rfl))); (try simp only [Act.put, List.setIfInBounds_toArray, List.set_cons_zero, List.set_cons_succ])
        refine wpAnyH_take (i := 6) (oi := ⟨some 23, _, _, _, _, _⟩) (v := ?_) rfl (by kernel_rfl) (by kernel_rfl) (by kernel_rfl) (fun _ _ _ h => h) (Or.inl ⟨by rfl, ?hyt6⟩) (by assumption) ?_; (case hyt6 => ((intro W hSW; (try dsimp only at hSW); obtain ⟨s1, s2, s3, s4⟩ := hSW; go_simp); (all_goals with_reducible rfl))); (try simp only [Act.put, List.setIfInBounds_toArray, List.set_cons_zero, List.set_cons_succ])
        refine wpAnyH_take (i := 7) (oi := ⟨some 24, _, _, _, _, _⟩) (v := ?_) rfl (by kernel_rfl) (by kernel_rfl) (by kernel_rfl) (fun _ _ _ h => h) (Or.inl ⟨by rfl, ?hyt7⟩) (by assumption) ?_; (case hyt7 => ((intro W hSW; (try dsimp only at hSW); obtain ⟨s1, s2, s3, s4⟩ := hSW; go_simp); (all_goals with_reducible rfl))); (try simp only [Act.put, List.setIfInBounds_toArray, List.set_cons_zero, List.set_cons_succ])
        refine wpAnyH_take (i := 8) (oi := ⟨some 25, _, _, _, _, _⟩) (v := ?_) rfl (by kernel_rfl) (by kernel_rfl) (by kernel_rfl) (fun _ _ _ h => h) (Or.inl ⟨by rfl, ?hyt8⟩) (by assumption) ?_; (case hyt8 => ((intro W hSW; (try dsimp only at hSW); obtain ⟨s1, s2, s3, s4⟩ := hSW; go_simp); (all_goals with_reducible rfl))); (try simp only [Act.put, List.setIfInBounds_toArray, List.set_cons_zero, List.set_cons_succ])
        refine wpAnyH_done (by kernel_rfl) ?_ _
        refine NoPanic.normal ?_
        clear hHeld
        cases z with
        | true =>
          go_wp2_with fail
          go_roundw
          case rel => exact ⟨k + 1, by omega, by go_num, fun j hj => (by
            by_cases e : j = k
            · rw [e, hp1.out, hp2.out]; exact of_decide_eq_true hz.out
            · exact HALL.out j (by omega)), hB.drew⟩
          case measure => simp [intOf] <;> omega
        | false =>
          go_wp2_with fail
          go_ret
          exact ⟨by rw [hno.out (ps_ne (k := k) (by rw [hp1.out, hp2.out]; exact of_decide_eq_false hz.out))]; rfl, hB.drew⟩
      · obtain rfl : k = n1 := by omega
        go_wp2_with fail
        go_ret
        exact ⟨by rw [hb.out.2 (ps_eq (by rw [LL1.out, LL2.out]) (by rw [LL1.out]; exact HALL.out))]; rfl, hB⟩
  · have hne' : ((n1 : Int) == (n2 : Int)) = false := by rw [beq_eq_false_iff_ne]; omega
    have hne2 : ¬ (n1 : Int) = (n2 : Int) := by omega
    go_enter Tryd.func62, Tryd.ntmps62
    go_wp2_with fail
    go_ret
    exact ⟨by rw [hno.out (fun e => hne (by rw [← LL1.out, ← LL2.out, e]))]; rfl, Below.refl _ _⟩
end Go.Proofs.YtfphffkgacajdaaDoor
/- The reference's Same of two messages; the laws' plain. -/
namespace Go.Proofs.YtfphffkgacajdaaDoor
open Go.RowKit
set_option linter.unusedVariables false
set_option linter.unusedSimpArgs false
set_option maxHeartbeats 4000000
set_option maxRecDepth 20000
theorem mplain_any (m : Msg) (q : Option Addr) (n c : Nat) (w : World) :
    Calls Tryd.prog 16 #[msgV m q n c] w fun e w' => e = .returned (msgV m q n c) ∧ Below w.heap.size w w' := by
  unfold msgV
  go_enter Tryd.func16, Tryd.ntmps16
  go_wp2_with fail
  exact bodyPost_ret (v := .agg #[.int .u8 (m.kind.toNat : Int), .int .u64 (m.seq : Int), .int .i64 m.at_, .slice q n c]) (by simp [results, Tryd.results16, go_sem]) rfl ⟨rfl, (by repeat (first | with_reducible exact Below.refl _ _ | with_reducible refine Below.drew ?_ | with_reducible refine Below.alloc ?_ (by (try simp) <;> omega) _ | with_reducible refine Below.setCell ?_ (by (try simp) <;> omega) _))⟩
/-- the reference's Same -/
theorem rmsame_any (x : Msg) (q1 : Option Addr) (n1 c1 : Nat) (y : Msg) (q2 : Option Addr) (n2 c2 : Nat) (w : World) (hR1 : RowQ w q1 n1 x.props) (hR2 : RowQ w q2 n2 y.props) :
    Calls Tryd.prog 25 #[msgV x q1 n1 c1, msgV y q2 n2 c2] w fun e w' => e = .returned (.bool (decide (x.kind = y.kind ∧ x.seq = y.seq ∧ x.at_ = y.at_ ∧ x.props = y.props))) ∧ Below w.heap.size w w' := by
  obtain ⟨k1, s1, a1, l1⟩ := x
  obtain ⟨k2, s2, a2, l2⟩ := y
  simp only at hR1 hR2 ⊢
  unfold msgV
  simp only
  have HS := fun W h1 h2 => rsame5_any q1 n1 c1 l1 q2 n2 c2 l2 W h1 h2 (decide (l1 = l2)) (by simp)
  generalize hres : decide (k1 = k2 ∧ s1 = s2 ∧ a1 = a2 ∧ l1 = l2) = res
  have hno : ¬ (k1 = k2 ∧ s1 = s2 ∧ a1 = a2) → res = false := fun h => by rw [← hres, decide_eq_false_iff_not]; exact fun e => h ⟨e.1, e.2.1, e.2.2.1⟩
  have hyes : (k1 = k2 ∧ s1 = s2 ∧ a1 = a2) → res = decide (l1 = l2) := fun h => by rw [← hres, h.1, h.2.1, h.2.2]; simp
  clear hres
  generalize decide (l1 = l2) = z at *
  replace HS := Lib.hid HS
  replace hno := Lib.hid hno
  replace hyes := Lib.hid hyes
  have HR1 := Lib.hid hR1
  have HR2 := Lib.hid hR2
  clear hR1 hR2
  by_cases h1 : k1 = k2
  · subst h1
    by_cases h2 : s1 = s2
    · subst h2
      by_cases h3 : a1 = a2
      · subst h3
        have ez : res = z := hyes.out ⟨rfl, rfl, rfl⟩
        replace ez := Lib.hid ez
        go_enter Tryd.func25, Tryd.ntmps25
        go_wp2_with fail
        refine (HS.out _ (HR1.out.below (by repeat (first | with_reducible exact Below.refl _ _ | with_reducible refine Below.drew ?_ | with_reducible refine Below.alloc ?_ (by (try simp) <;> omega) _ | with_reducible refine Below.setCell ?_ (by (try simp) <;> omega) _))) (HR2.out.below (by repeat (first | with_reducible exact Below.refl _ _ | with_reducible refine Below.drew ?_ | with_reducible refine Below.alloc ?_ (by (try simp) <;> omega) _ | with_reducible refine Below.setCell ?_ (by (try simp) <;> omega) _)))).mono ?_; rintro e w5 ⟨rfl, hb5⟩
        go_wp2_with fail
        go_ret
        exact ⟨by rw [ez.out]; rfl, (by repeat (first | with_reducible exact Below.refl _ _ | with_reducible refine Below.trans ?_ (Below.mono hb9 (by (try simp) <;> omega)) | with_reducible refine Below.trans ?_ (Below.mono hb8 (by (try simp) <;> omega)) | with_reducible refine Below.trans ?_ (Below.mono hb7 (by (try simp) <;> omega)) | with_reducible refine Below.trans ?_ (Below.mono hb6 (by (try simp) <;> omega)) | with_reducible refine Below.trans ?_ (Below.mono hb5 (by (try simp) <;> omega)) | with_reducible refine Below.trans ?_ (Below.mono hb4 (by (try simp) <;> omega)) | with_reducible refine Below.trans ?_ (Below.mono hb3 (by (try simp) <;> omega)) | with_reducible refine Below.trans ?_ (Below.mono hb2 (by (try simp) <;> omega)) | with_reducible refine Below.trans ?_ (Below.mono hb1 (by (try simp) <;> omega)) | with_reducible refine Below.drew ?_ | with_reducible refine Below.alloc ?_ (by (try simp) <;> omega) _ | with_reducible refine Below.setCell ?_ (by (try simp) <;> omega) _))⟩
      · have e : res = false := hno.out (fun h => h3 h.2.2)
        replace e := Lib.hid e
        go_enter Tryd.func25, Tryd.ntmps25
        go_wp2_with fail
        go_ret
        exact ⟨by rw [e.out]; simp [*], (by repeat (first | with_reducible exact Below.refl _ _ | with_reducible refine Below.drew ?_ | with_reducible refine Below.alloc ?_ (by (try simp) <;> omega) _ | with_reducible refine Below.setCell ?_ (by (try simp) <;> omega) _))⟩
    · have e : res = false := hno.out (fun h => h2 h.2.1)
      replace e := Lib.hid e
      have h2' : ((s1 : Int) == (s2 : Int)) = false := by rw [beq_eq_false_iff_ne]; omega
      go_enter Tryd.func25, Tryd.ntmps25
      go_wp2_with fail
      go_ret
      exact ⟨by rw [e.out]; simp [*], (by repeat (first | with_reducible exact Below.refl _ _ | with_reducible refine Below.drew ?_ | with_reducible refine Below.alloc ?_ (by (try simp) <;> omega) _ | with_reducible refine Below.setCell ?_ (by (try simp) <;> omega) _))⟩
  · have e : res = false := hno.out (fun h => h1 h.1)
    replace e := Lib.hid e
    have h1' : ((k1.toNat : Int) == (k2.toNat : Int)) = false := by rw [beq_eq_false_iff_ne]; exact fun e => h1 (UInt8.toNat_inj.1 (by omega))
    go_enter Tryd.func25, Tryd.ntmps25
    go_wp2_with fail
    go_ret
    exact ⟨by rw [e.out]; simp [*], (by repeat (first | with_reducible exact Below.refl _ _ | with_reducible refine Below.drew ?_ | with_reducible refine Below.alloc ?_ (by (try simp) <;> omega) _ | with_reducible refine Below.setCell ?_ (by (try simp) <;> omega) _))⟩
/-- is a message short? -/
def fewAt (ps : List Pr) (i : Nat) : Prop := (ps.getD i prD).name.length ≤ 40 ∧ i ≤ 20
instance (ps : List Pr) (i : Nat) : Decidable (fewAt ps i) := by unfold fewAt; exact inferInstance
def fewB (ps : List Pr) : Bool := decide (∀ i, i < ps.length → fewAt ps i)
theorem few_no {ps : List Pr} {k : Nat} (hk : k < ps.length) (h : ¬ fewAt ps k) : fewB ps = false := decide_eq_false (fun f => h (f k hk))
theorem few_yes {ps : List Pr} (h : ∀ i, i < ps.length → fewAt ps i) : fewB ps = true := decide_eq_true h
theorem few_all {ps : List Pr} (h : fewB ps = true) {i : Nat} (hi : i < ps.length) : fewAt ps i := of_decide_eq_true h i hi
theorem few_len {ps : List Pr} (h : fewB ps = true) : ps.length ≤ 21 := by
  rcases Nat.lt_or_ge 21 ps.length with h1 | h1
  · have := (few_all h h1).2; omega
  · exact h1
theorem few_any (m : Msg) (q : Option Addr) (n c : Nat) (w : World) (hR : RowQ w q n m.props) (hnm : ∀ i, (m.props.getD i prD).name.length ≤ 9223372036854775807) :
    Calls Tryd.prog 15 #[msgV m q n c] w fun e w' => e = .returned (.bool (fewB m.props)) ∧ Below w.heap.size w w' := by
  obtain ⟨mk, ms, ma, ps⟩ := m
  simp only at hR hnm ⊢
  unfold msgV
  have LL := Lib.hid hR.length
  have hsm := RowG.small hR
  unfold maxLen at hsm
  obtain ⟨W1, eW1⟩ : ∃ W, w.alloc (.cells #[.int .u8 (mk.toNat : Int), .int .u64 (ms : Int), .int .i64 ma, .slice q n c] 25) = W := ⟨_, rfl⟩
  have B1 : Below w.heap.size w W1 := by rw [← eW1]; exact (Below.refl _ _).alloc (Nat.le_refl _) _
  have a3 : W1.cell? ⟨w.heap.size, 3, none⟩ = some (.slice q n c) := by rw [← eW1]; simp [go_sem]
  go_enter Tryd.func15, Tryd.ntmps15
  go_wp2_with fail
  go_loop [3] (fun i => ∃ k : Nat, k ≤ n ∧ i = .int .i64 k ∧ ∀ j, j < k → fewAt ps j) (fun i => n - (intOf i).toNat)
  case atStart => exact ⟨0, Nat.zero_le _, rfl, fun j hj => by omega⟩
  case round =>
    obtain ⟨k, hk, rfl, hall⟩ := hrel
    have HALL := Lib.hid hall
    clear hall
    by_cases hlt : k < n
    · obtain ⟨b, off, rfl, hb, hc⟩ := hR.at_ (by omega)
      have hk0 : (0 : Int) ≤ (k : Int) := by omega
      have hk1 : (k : Int) < (n : Int) := by omega
      have hkp : k < ps.length := by have := LL.out; omega
      have c0 := (B1.cell (p := ⟨b, off + k * 2, none⟩) hb).trans (hc k hlt).1
      have hL := ba_sizeP (ps.getD k prD).name
      have hnk := hnm k
      have hF : fewAt ps k ↔ ((ps.getD k prD).name.length ≤ 40 ∧ k ≤ 20) := Iff.rfl
      generalize (ps.getD k prD).name = nm at *
      clear hc hnm
      replace hF := Lib.hid hF
      by_cases h40 : 40 < nm.length
      · have h40' : (40 : Int) < (nm.length : Int) := by omega
        go_wp2_with fail
        go_ret
        exact ⟨by rw [few_no hkp (fun f => by have := hF.out.1 f; omega)]; rfl, B1⟩
      have h40' : ¬ (40 : Int) < (nm.length : Int) := by omega
      by_cases h20 : 20 < k
      · have h20' : (20 : Int) < (k : Int) := by omega
        go_wp2_with fail
        go_ret
        exact ⟨by rw [few_no hkp (fun f => by have := hF.out.1 f; omega)]; rfl, B1⟩
      have h20' : ¬ (20 : Int) < (k : Int) := by omega
      go_wp2_with fail
      go_round
      case rel => exact ⟨k + 1, by omega, by go_num, fun j hj => (by
        by_cases e : j = k
        · rw [e]; exact hF.out.2 ⟨by omega, by omega⟩
        · exact HALL.out j (by omega))⟩
      case measure => simp [intOf] <;> omega
    · obtain rfl : k = n := by omega
      go_wp2_with fail
      go_ret
      exact ⟨by rw [few_yes (fun i hi => HALL.out i (by have := LL.out; omega))]; rfl, B1⟩
end Go.Proofs.YtfphffkgacajdaaDoor
/- The bytes of a message; the reference's Put. -/
namespace Go.Proofs.YtfphffkgacajdaaDoor
open Go.RowKit Oct
set_option linter.unusedVariables false
set_option linter.unusedSimpArgs false
set_option maxHeartbeats 4000000
set_option maxRecDepth 20000
def propB (p : Pr) : List UInt8 := encText ⟨p.name.toArray⟩ ++ enc (signOf p.value).toNat
def propsB (ps : List Pr) : List UInt8 := ps.flatMap propB
theorem propsB_succ (ps : List Pr) (k : Nat) (h : k < ps.length) : propsB (ps.take (k + 1)) = propsB (ps.take k) ++ propB (ps.getD k prD) := by
  unfold propsB
  rw [List.take_succ_eq_append_getElem h, List.flatMap_append]
  simp [List.getD, h]
def putM (m : Msg) : List UInt8 :=
  if m.kind = 1 then enc m.seq
  else if m.kind = 3 then enc m.at_.toNat
  else if m.kind = 4 then []
  else enc m.seq ++ enc m.at_.toNat ++ enc m.props.length ++ propsB m.props
theorem ba_appP (a b : List UInt8) : ((⟨a.toArray⟩ : ByteArray) ++ (⟨b.toArray⟩ : ByteArray)) = ⟨(a ++ b).toArray⟩ := by
  apply ByteArray.ext
  simp [ByteArray.data_append]
theorem rput1 (m : Msg) (q : Option Addr) (n c : Nat) (w : World) (hok : m.ok) (hk : m.kind = 1 ∨ m.kind = 3 ∨ m.kind = 4) (ha : 0 ≤ m.at_) :
    Calls Tryd.prog 22 #[msgV m q n c] w fun e w' => e = .returned (.string ⟨(putM m).toArray⟩) ∧ Below w.heap.size w w' := by
  obtain ⟨k, s, a, l⟩ := m
  have hs := hok.seq
  have ha2 := hok.at_
  simp only at hs ha2 hk ha
  unfold msgV putM
  simp only
  rcases hk with rfl | rfl | rfl
  · rw [if_pos rfl]
    have HN := Lib.hid (fun W => rnum_any s (by omega) W)
    go_enter Tryd.func22, Tryd.ntmps22
    go_wp2_with fail
    refine (HN.out _).mono ?_; rintro e w5 ⟨rfl, hb5⟩
    go_wp2_with fail
    go_ret
    exact ⟨rfl, (by repeat (first | with_reducible exact Below.refl _ _ | with_reducible refine Below.trans ?_ (Below.mono hb9 (by (try simp) <;> omega)) | with_reducible refine Below.trans ?_ (Below.mono hb8 (by (try simp) <;> omega)) | with_reducible refine Below.trans ?_ (Below.mono hb7 (by (try simp) <;> omega)) | with_reducible refine Below.trans ?_ (Below.mono hb6 (by (try simp) <;> omega)) | with_reducible refine Below.trans ?_ (Below.mono hb5 (by (try simp) <;> omega)) | with_reducible refine Below.trans ?_ (Below.mono hb4 (by (try simp) <;> omega)) | with_reducible refine Below.trans ?_ (Below.mono hb3 (by (try simp) <;> omega)) | with_reducible refine Below.trans ?_ (Below.mono hb2 (by (try simp) <;> omega)) | with_reducible refine Below.trans ?_ (Below.mono hb1 (by (try simp) <;> omega)) | with_reducible refine Below.drew ?_ | with_reducible refine Below.alloc ?_ (by (try simp) <;> omega) _ | with_reducible refine Below.setCell ?_ (by (try simp) <;> omega) _))⟩
  · rw [if_neg (by decide), if_pos rfl]
    obtain ⟨u, rfl⟩ : ∃ u : Nat, a = (u : Int) := ⟨a.toNat, by omega⟩
    have hcv : IntKind.u64.wrap (u : Int) = (u : Int) := IntWalk.u64_in _ (by omega)
    rw [Int.toNat_natCast]
    have HN := Lib.hid (fun W => rnum_any u (by omega) W)
    go_enter Tryd.func22, Tryd.ntmps22
    go_wp2_with fail
    refine (HN.out _).mono ?_; rintro e w5 ⟨rfl, hb5⟩
    go_wp2_with fail
    go_ret
    exact ⟨rfl, (by repeat (first | with_reducible exact Below.refl _ _ | with_reducible refine Below.trans ?_ (Below.mono hb9 (by (try simp) <;> omega)) | with_reducible refine Below.trans ?_ (Below.mono hb8 (by (try simp) <;> omega)) | with_reducible refine Below.trans ?_ (Below.mono hb7 (by (try simp) <;> omega)) | with_reducible refine Below.trans ?_ (Below.mono hb6 (by (try simp) <;> omega)) | with_reducible refine Below.trans ?_ (Below.mono hb5 (by (try simp) <;> omega)) | with_reducible refine Below.trans ?_ (Below.mono hb4 (by (try simp) <;> omega)) | with_reducible refine Below.trans ?_ (Below.mono hb3 (by (try simp) <;> omega)) | with_reducible refine Below.trans ?_ (Below.mono hb2 (by (try simp) <;> omega)) | with_reducible refine Below.trans ?_ (Below.mono hb1 (by (try simp) <;> omega)) | with_reducible refine Below.drew ?_ | with_reducible refine Below.alloc ?_ (by (try simp) <;> omega) _ | with_reducible refine Below.setCell ?_ (by (try simp) <;> omega) _))⟩
  · rw [if_neg (by decide), if_neg (by decide), if_pos rfl]
    go_enter Tryd.func22, Tryd.ntmps22
    go_wp2_with fail
    go_ret
    exact ⟨rfl, (by repeat (first | with_reducible exact Below.refl _ _ | with_reducible refine Below.drew ?_ | with_reducible refine Below.alloc ?_ (by (try simp) <;> omega) _ | with_reducible refine Below.setCell ?_ (by (try simp) <;> omega) _))⟩
theorem rput2 (s u n : Nat) (q : Option Addr) (c : Nat) (l : List Pr) (w : World) (hs : s ≤ 18446744073709551615) (hu : u ≤ 9223372036854775807) (hn : n ≤ 8) (hR : RowQ w q n l) (hnm : ∀ i, i < n → (l.getD i prD).name.length ≤ 1000) (hok : okPs l) :
    Calls Tryd.prog 22 #[.agg #[.int .u8 2, .int .u64 (s : Int), .int .i64 (u : Int), .slice q n c]] w fun e w' => e = .returned (.string ⟨(enc s ++ enc u ++ enc n ++ propsB l).toArray⟩) ∧ Below w.heap.size w w' := by
  have LL := Lib.hid hR.length
  have HN1 := Lib.hid (fun W => rnum_any s (by omega) W)
  have HN2 := Lib.hid (fun W => rnum_any u (by omega) W)
  have HN3 := Lib.hid (fun W => rnum_any n (by omega) W)
  have hcv : IntKind.u64.wrap (u : Int) = (u : Int) := IntWalk.u64_in _ (by omega)
  have hcv2 : IntKind.u64.wrap (n : Int) = (n : Int) := IntWalk.u64_in _ (by omega)
  have l1 := enc_le s
  have l2 := enc_le u
  have l3 := enc_le n
  generalize enc s = e1 at *
  generalize enc u = e2 at *
  generalize enc n = e3 at *
  obtain ⟨W1, eW1⟩ : ∃ W, w.alloc (.cells #[.int .u8 2, .int .u64 (s : Int), .int .i64 (u : Int), .slice q n c] 28) = W := ⟨_, rfl⟩
  have z1 : W1.heap.size = w.heap.size + 1 := by rw [← eW1]; simp
  have B1 : Below w.heap.size w W1 := by rw [← eW1]; exact (Below.refl _ _).alloc (Nat.le_refl _) _
  have a0 : W1.cell? ⟨w.heap.size, 0, none⟩ = some (.int .u8 2) := by rw [← eW1]; simp [go_sem]
  have a1 : W1.cell? ⟨w.heap.size, 1, none⟩ = some (.int .u64 (s : Int)) := by rw [← eW1]; simp [go_sem]
  have a2 : W1.cell? ⟨w.heap.size, 2, none⟩ = some (.int .i64 (u : Int)) := by rw [← eW1]; simp [go_sem]
  have a3 : W1.cell? ⟨w.heap.size, 3, none⟩ = some (.slice q n c) := by rw [← eW1]; simp [go_sem]
  have E : ∀ W, Below W1.heap.size W1 W → W.cell? ⟨w.heap.size, 1, none⟩ = some (.int .u64 (s : Int)) ∧ W.cell? ⟨w.heap.size, 2, none⟩ = some (.int .i64 (u : Int)) ∧ W.cell? ⟨w.heap.size, 3, none⟩ = some (.slice q n c) := fun W hW =>
    ⟨(hW.cell (p := ⟨w.heap.size, 1, none⟩) (by simp; omega)).trans a1, (hW.cell (p := ⟨w.heap.size, 2, none⟩) (by simp; omega)).trans a2, (hW.cell (p := ⟨w.heap.size, 3, none⟩) (by simp; omega)).trans a3⟩
  replace E := Lib.hid E
  have HD : Below W1.heap.size W1 W1.drew := (Below.refl _ _).drew
  have b1 := ba_sizeP e1
  have b2 := ba_sizeP e2
  have b3 := ba_sizeP e3
  have hA1 : ¬ 9223372036854775807 < e1.length + e2.length := by omega
  have hA2 : ¬ 9223372036854775807 < e1.length + e2.length + e3.length := by omega
  have hA3 : ¬ 9223372036854775807 < e1.length + (e2.length + e3.length) := by omega
  have p12 := ba_appP e1 e2
  have p123 := ba_appP (e1 ++ e2) e3
  go_enter Tryd.func22, Tryd.ntmps22
  go_wp2_with fail
  refine wp_region_held_drew (S := fun W => W.cell? ⟨w.heap.size, 1, none⟩ = some (.int .u64 (s : Int)) ∧ W.cell? ⟨w.heap.size, 2, none⟩ = some (.int .i64 (u : Int)) ∧ W.cell? ⟨w.heap.size, 3, none⟩ = some (.slice q n c)) (by kernel_rfl) (E.out _ HD) (fun hHeld => ?_)
  refine wpAnyH_take (i := 0) (oi := ⟨some 21, _, _, _, _, _⟩) (v := ?_) rfl (by kernel_rfl) (by kernel_rfl) (by kernel_rfl) (fun _ _ _ h => h) (Or.inl ⟨by rfl, ?hyt0⟩) (by assumption) ?_; (case hyt0 => ((intro W hSW; (try dsimp only at hSW); obtain ⟨hSW, hSW2, hSW3⟩ := hSW; go_simp); (all_goals with_reducible rfl))); (try simp only [Act.put, List.setIfInBounds_toArray, List.set_cons_zero, List.set_cons_succ])
  refine wpAnyH_take (i := 1) (oi := ⟨some 22, _, _, _, _, _⟩) (v := ?_) rfl (by kernel_rfl) (by kernel_rfl) (by kernel_rfl) (fun _ _ _ h => h) (Or.inl ⟨by rfl, ?hyt1⟩) (by assumption) ?_; (case hyt1 => ((intro W hSW; (try dsimp only at hSW); obtain ⟨hSW, hSW2, hSW3⟩ := hSW; go_simp); (all_goals with_reducible rfl))); (try simp only [Act.put, List.setIfInBounds_toArray, List.set_cons_zero, List.set_cons_succ])
  refine wpAnyH_take (i := 3) (oi := ⟨some 24, _, _, _, _, _⟩) (v := ?_) rfl (by kernel_rfl) (by kernel_rfl) (by kernel_rfl) (fun _ _ _ h => h) (Or.inl ⟨by rfl, ?hyt3⟩) (by assumption) ?_; (case hyt3 => ((intro W hSW; (try dsimp only at hSW); obtain ⟨hSW, hSW2, hSW3⟩ := hSW; go_simp); (all_goals with_reducible rfl))); (try simp only [Act.put, List.setIfInBounds_toArray, List.set_cons_zero, List.set_cons_succ])
  refine wpAnyH_take (i := 4) (oi := ⟨some 25, _, _, _, _, _⟩) (v := ?_) rfl (by kernel_rfl) (by kernel_rfl) (by kernel_rfl) (fun _ _ _ h => h) (Or.inl ⟨by rfl, ?hyt4⟩) (by assumption) ?_; (case hyt4 => ((intro W hSW; (try dsimp only at hSW); obtain ⟨hSW, hSW2, hSW3⟩ := hSW; go_simp); (all_goals with_reducible rfl))); (try simp only [Act.put, List.setIfInBounds_toArray, List.set_cons_zero, List.set_cons_succ])
  refine wpAnyH_take (i := 5) (oi := ⟨some 26, _, _, _, _, _⟩) (v := ?_) rfl (by kernel_rfl) (by kernel_rfl) (by kernel_rfl) (fun _ _ _ h => h) (Or.inl ⟨by rfl, ?hyt5⟩) (by assumption) ?_; (case hyt5 => ((intro W hSW; (try dsimp only at hSW); obtain ⟨hSW, hSW2, hSW3⟩ := hSW; go_simp); (all_goals with_reducible rfl))); (try simp only [Act.put, List.setIfInBounds_toArray, List.set_cons_zero, List.set_cons_succ])
  refine wpAnyH_take (i := 8) (oi := ⟨some 29, _, _, _, _, _⟩) (v := ?_) rfl (by kernel_rfl) (by kernel_rfl) (by kernel_rfl) (fun _ _ _ h => h) (Or.inl ⟨by rfl, ?hyt8⟩) (by assumption) ?_; (case hyt8 => ((intro W hSW; (try dsimp only at hSW); obtain ⟨hSW, hSW2, hSW3⟩ := hSW; go_simp); (all_goals with_reducible rfl))); (try simp only [Act.put, List.setIfInBounds_toArray, List.set_cons_zero, List.set_cons_succ])
  refine wpAnyH_take (i := 9) (oi := ⟨some 30, _, _, _, _, _⟩) (v := ?_) rfl (by kernel_rfl) (by kernel_rfl) (by kernel_rfl) (fun _ _ _ h => h) (Or.inl ⟨by rfl, ?hyt9⟩) (by assumption) ?_; (case hyt9 => ((intro W hSW; (try dsimp only at hSW); obtain ⟨hSW, hSW2, hSW3⟩ := hSW; go_simp); (all_goals with_reducible rfl))); (try simp only [Act.put, List.setIfInBounds_toArray, List.set_cons_zero, List.set_cons_succ])
  refine wpAnyH_take (i := 10) (oi := ⟨some 31, _, _, _, _, _⟩) (v := ?_) rfl (by kernel_rfl) (by kernel_rfl) (by kernel_rfl) (fun _ _ _ h => h) (Or.inl ⟨by rfl, ?hyt10⟩) (by assumption) ?_; (case hyt10 => ((intro W hSW; (try dsimp only at hSW); obtain ⟨hSW, hSW2, hSW3⟩ := hSW; go_simp); (all_goals with_reducible rfl))); (try simp only [Act.put, List.setIfInBounds_toArray, List.set_cons_zero, List.set_cons_succ])
  refine wpAnyH_take (i := 11) (oi := ⟨some 32, _, _, _, _, _⟩) (v := ?_) rfl (by kernel_rfl) (by kernel_rfl) (by kernel_rfl) (fun _ _ _ h => h) (Or.inl ⟨by rfl, ?hyt11⟩) (by assumption) ?_; (case hyt11 => ((intro W hSW; (try dsimp only at hSW); obtain ⟨hSW, hSW2, hSW3⟩ := hSW; go_simp); (all_goals with_reducible rfl))); (try simp only [Act.put, List.setIfInBounds_toArray, List.set_cons_zero, List.set_cons_succ])
  refine wpAnyH_ready (rs := [2]) (by kernel_rfl) (by simp) ?_; refine AllReadyH.cons (o := ⟨some 23, _, _, _, _, _⟩) rfl (fun K hK => ?_) AllReadyH.nil; go_simp
  go_at_call 49
  refine (HN1.out _).mono ?_; rintro e w5 ⟨rfl, hb5⟩
  have HB5 : Below W1.heap.size W1 w5 := HD.trans (hb5.mono HD.size)
  (try go_simp)
  refine hK.out _ _ (E.out _ HB5) (fun hHeld2 => ?_)
  clear hK K hHeld
  (try simp only [Act.put, List.setIfInBounds_toArray, List.set_cons_zero, List.set_cons_succ])
  refine wpAnyH_ready (rs := [6]) (by kernel_rfl) (by simp) ?_; refine AllReadyH.cons (o := ⟨some 27, _, _, _, _, _⟩) rfl (fun K hK => ?_) AllReadyH.nil; go_simp
  go_at_call 49
  refine (HN2.out _).mono ?_; rintro e w6 ⟨rfl, hb6⟩
  have HB6 : Below W1.heap.size W1 w6 := HB5.trans (hb6.mono HB5.size)
  (try go_simp)
  refine hK.out _ _ (E.out _ HB6) (fun hHeld3 => ?_)
  clear hK K hHeld2
  (try simp only [Act.put, List.setIfInBounds_toArray, List.set_cons_zero, List.set_cons_succ])
  refine wpAnyH_take (i := 7) (oi := ⟨some 28, _, _, _, _, _⟩) (v := ?_) rfl (by kernel_rfl) (by kernel_rfl) (by kernel_rfl) (fun _ _ _ h => h) (Or.inl ⟨by rfl, ?hyt7⟩) (by assumption) ?_; (case hyt7 => ((intro W hSW; (try dsimp only at hSW); obtain ⟨hSW, hSW2, hSW3⟩ := hSW; go_simp); (all_goals with_reducible rfl))); (try simp only [Act.put, List.setIfInBounds_toArray, List.set_cons_zero, List.set_cons_succ])
  refine wpAnyH_ready (rs := [12]) (by kernel_rfl) (by simp) ?_; refine AllReadyH.cons (o := ⟨some 33, _, _, _, _, _⟩) rfl (fun K hK => ?_) AllReadyH.nil; go_simp
  go_at_call 49
  refine (HN3.out _).mono ?_; rintro e w7 ⟨rfl, hb7⟩
  have HB7 : Below W1.heap.size W1 w7 := HB6.trans (hb7.mono HB6.size)
  (try go_simp)
  refine hK.out _ _ (E.out _ HB7) (fun hHeld4 => ?_)
  clear hK K hHeld3
  (try simp only [Act.put, List.setIfInBounds_toArray, List.set_cons_zero, List.set_cons_succ])
  refine wpAnyH_take (i := 13) (oi := ⟨some 34, _, _, _, _, _⟩) (v := ?_) rfl (by kernel_rfl) (by kernel_rfl) (by kernel_rfl) (fun _ _ _ h => h) (Or.inl ⟨by rfl, ?hyt13⟩) (by assumption) ?_; (case hyt13 => ((intro W hSW; (try dsimp only at hSW); obtain ⟨hSW, hSW2, hSW3⟩ := hSW; go_simp); (all_goals with_reducible rfl))); (try simp only [Act.put, List.setIfInBounds_toArray, List.set_cons_zero, List.set_cons_succ])
  refine wpAnyH_take (i := 14) (oi := ⟨some 3, _, _, _, _, _⟩) (v := ?_) rfl (by kernel_rfl) (by kernel_rfl) (by kernel_rfl) (fun _ _ _ h => h) (Or.inl ⟨by rfl, ?hyt14⟩) (by assumption) ?_; (case hyt14 => ((intro W hSW; (try dsimp only at hSW); obtain ⟨hSW, hSW2, hSW3⟩ := hSW; go_simp); (all_goals with_reducible rfl))); (try simp only [Act.put, List.setIfInBounds_toArray, List.set_cons_zero, List.set_cons_succ])
  refine wpAnyH_done (by kernel_rfl) ?_ _
  clear hHeld4
  have Z7 : Below w.heap.size w w7 := B1.trans (HB7.mono B1.size)
  have x3 := (E.out _ HB7).2.2
  have hx3 : w.heap.size < w7.heap.size := by have := HB7.size; omega
  replace hnm := Lib.hid hnm
  replace hok := Lib.hid hok
  clear a0 a1 a2 a3 p12 p123 hA1 hA2 hA3 b1 b2 b3 E
  go_wp2_with fail
  go_loopw [3, 4] (fun t i wr => ∃ k : Nat, k ≤ n ∧ i = .int .i64 k ∧ t = .string ⟨(e1 ++ e2 ++ e3 ++ propsB (l.take k)).toArray⟩ ∧ (propsB (l.take k)).length ≤ 2000 * k ∧ Below w7.heap.size w7 wr) (fun t i wr => n - (intOf i).toNat)
  case atStart => exact ⟨0, Nat.zero_le _, rfl, by simp [propsB], by simp [propsB], Below.refl _ _⟩
  case round =>
    obtain ⟨k, hk, rfl, rfl, hsz, hB⟩ := hrel
    have c3 := (hB.cell (p := ⟨w.heap.size, 3, none⟩) hx3).trans x3
    by_cases hlt : k < n
    · obtain ⟨b, off, rfl, hb, hc⟩ := hR.at_ (by omega)
      have hk0 : (0 : Int) ≤ (k : Int) := by omega
      have hk1 : (k : Int) < (n : Int) := by omega
      have hkp : k < l.length := by have := LL.out; omega
      have hBw := Z7.trans (hB.mono Z7.size)
      have hbr : b < wr.heap.size := Nat.lt_of_lt_of_le hb hBw.size
      have y0 := (hBw.cell (p := ⟨b, off + k * 2, none⟩) hb).trans (hc k hlt).1
      have y1 := (hBw.cell (p := ⟨b, off + k * 2 + 1, none⟩) hb).trans (hc k hlt).2
      have hnk := hnm.out k hlt
      have hov := (hok.out k).value
      have hP := propsB_succ l k hkp
      have hpb : propB (l.getD k prD) = encText ⟨(l.getD k prD).name.toArray⟩ ++ enc (signOf (l.getD k prD).value).toNat := rfl
      generalize l.getD k prD = p at *
      obtain ⟨pn, pv⟩ := p
      simp only at *
      have hzb := ba_sizeP pn
      have HT := Lib.hid (fun W => rtxt_any ⟨pn.toArray⟩ (by omega) W)
      have HS := Lib.hid (fun W => rsign_any pv hov.1 hov.2 W)
      have hsg : 0 ≤ signOf pv ∧ signOf pv ≤ 18446744073709551615 := by unfold signOf; split <;> omega
      obtain ⟨g, hg⟩ : ∃ g : Nat, signOf pv = (g : Int) := ⟨(signOf pv).toNat, by omega⟩
      rw [hg] at hpb HS hsg
      rw [Int.toNat_natCast] at hpb
      have HN := Lib.hid (fun W => rnum_any g (by omega) W)
      have l5 := enc_le g
      have l6 : (encText ⟨pn.toArray⟩).length ≤ 9 + 1000 := by
        unfold encText
        have := enc_le (⟨pn.toArray⟩ : ByteArray).size
        rw [List.length_append]
        simp only [List.toList_toArray] at *
        omega
      rw [hpb] at hP
      generalize encText ⟨pn.toArray⟩ = e5 at *
      generalize enc g = e6 at *
      generalize propsB (l.take k) = ee at *
      replace hP := Lib.hid hP
      clear hpb hc
      have E2 : ∀ W, Below wr.heap.size wr W → W.cell? ⟨w.heap.size, 3, none⟩ = some (.slice (some ⟨b, off, none⟩) n c) ∧ W.cell? ⟨b, off + k * 2, none⟩ = some (.string ⟨pn.toArray⟩) ∧ W.cell? ⟨b, off + k * 2 + 1, none⟩ = some (.int .i64 pv) := fun W hW =>
        ⟨(hW.cell (p := ⟨w.heap.size, 3, none⟩) (Nat.lt_of_lt_of_le hx3 hB.size)).trans c3, (hW.cell (p := ⟨b, off + k * 2, none⟩) hbr).trans y0, (hW.cell (p := ⟨b, off + k * 2 + 1, none⟩) hbr).trans y1⟩
      replace E2 := Lib.hid E2
      have HD2 : Below wr.heap.size wr wr.drew := (Below.refl _ _).drew
      have hwk : IntKind.i64.wrap (k : Int) = (k : Int) := IntWalk.i64_in _ (by omega)
      have q1 := ba_appP e5 e6
      have q2 := ba_appP (e1 ++ e2 ++ e3 ++ ee) (e5 ++ e6)
      have hA1 : ¬ 9223372036854775807 < e5.length + e6.length := by omega
      have hA2 : ¬ 9223372036854775807 < e1.length + (e2.length + (e3.length + ee.length)) + (e5.length + e6.length) := by omega
      have hA3 : ¬ 9223372036854775807 < e1.length + (e2.length + (e3.length + (ee.length + (e5.length + e6.length)))) := by omega
      have hA4 : ¬ 9223372036854775807 < e1.length + e2.length + e3.length + ee.length + (e5.length + e6.length) := by omega
      have b5 := ba_sizeP e5
      have b6 := ba_sizeP e6
      go_wp2_with fail
      refine wp_region_noPanic ?_
      refine wp_region_held_drew (S := fun W => W.cell? ⟨w.heap.size, 3, none⟩ = some (.slice (some ⟨b, off, none⟩) n c) ∧ W.cell? ⟨b, off + k * 2, none⟩ = some (.string ⟨pn.toArray⟩) ∧ W.cell? ⟨b, off + k * 2 + 1, none⟩ = some (.int .i64 pv)) (by kernel_rfl) (E2.out _ HD2) (fun hHeld => ?_)
      refine wpAnyH_take (i := 0) (oi := ⟨some 42, _, _, _, _, _⟩) (v := ?_) rfl (by kernel_rfl) (by kernel_rfl) (by kernel_rfl) (fun _ _ _ h => h) (Or.inl ⟨by rfl, ?hyt0⟩) (by assumption) ?_; (case hyt0 => ((intro W hSW; (try dsimp only at hSW); obtain ⟨hSW, hSW2, hSW3⟩ := hSW; go_simp); (all_goals with_reducible rfl))); (try simp only [Act.put, List.setIfInBounds_toArray, List.set_cons_zero, List.set_cons_succ])
      refine wpAnyH_take (i := 1) (oi := ⟨some 43, _, _, _, _, _⟩) (v := ?_) rfl (by kernel_rfl) (by kernel_rfl) (by kernel_rfl) (fun _ _ _ h => h) (Or.inl ⟨by rfl, ?hyt1⟩) (by assumption) ?_; (case hyt1 => ((intro W hSW; (try dsimp only at hSW); obtain ⟨hSW, hSW2, hSW3⟩ := hSW; go_simp); (all_goals with_reducible rfl))); (try simp only [Act.put, List.setIfInBounds_toArray, List.set_cons_zero, List.set_cons_succ])
      refine wpAnyH_take (i := 2) (oi := ⟨some 44, _, _, _, _, _⟩) (v := ?_) rfl (by kernel_rfl) (by kernel_rfl) (by kernel_rfl) (fun _ _ _ h => h) (Or.inl ⟨by rfl, ?hyt2⟩) (by assumption) ?_; (case hyt2 => ((intro W hSW; (try dsimp only at hSW); obtain ⟨hSW, hSW2, hSW3⟩ := hSW; go_simp); (all_goals with_reducible rfl))); (try simp only [Act.put, List.setIfInBounds_toArray, List.set_cons_zero, List.set_cons_succ])
      refine wpAnyH_take (i := 3) (oi := ⟨some 45, _, _, _, _, _⟩) (v := ?_) rfl (by kernel_rfl) (by kernel_rfl) (by kernel_rfl) (fun _ _ _ h => h) (Or.inl ⟨by rfl, ?hyt3⟩) (by assumption) ?_; (case hyt3 => ((intro W hSW; (try dsimp only at hSW); obtain ⟨hSW, hSW2, hSW3⟩ := hSW; go_simp); (all_goals with_reducible rfl))); (try simp only [Act.put, List.setIfInBounds_toArray, List.set_cons_zero, List.set_cons_succ])
      refine wpAnyH_take (i := 4) (oi := ⟨some 46, _, _, _, _, _⟩) (v := ?_) rfl (by kernel_rfl) (by kernel_rfl) (by kernel_rfl) (fun _ _ _ h => h) (Or.inl ⟨by rfl, ?hyt4⟩) (by assumption) ?_; (case hyt4 => ((intro W hSW; (try dsimp only at hSW); obtain ⟨hSW, hSW2, hSW3⟩ := hSW; go_simp); (all_goals with_reducible rfl))); (try simp only [Act.put, List.setIfInBounds_toArray, List.set_cons_zero, List.set_cons_succ])
      refine wpAnyH_take (i := 5) (oi := ⟨some 47, _, _, _, _, _⟩) (v := ?_) rfl (by kernel_rfl) (by kernel_rfl) (by kernel_rfl) (fun _ _ _ h => h) (Or.inl ⟨by rfl, ?hyt5⟩) (by assumption) ?_; (case hyt5 => ((intro W hSW; (try dsimp only at hSW); obtain ⟨hSW, hSW2, hSW3⟩ := hSW; go_simp); (all_goals with_reducible rfl))); (try simp only [Act.put, List.setIfInBounds_toArray, List.set_cons_zero, List.set_cons_succ])
      refine wpAnyH_take (i := 6) (oi := ⟨some 48, _, _, _, _, _⟩) (v := ?_) rfl (by kernel_rfl) (by kernel_rfl) (by kernel_rfl) (fun _ _ _ h => h) (Or.inl ⟨by rfl, ?hyt6⟩) (by assumption) ?_; (case hyt6 => ((intro W hSW; (try dsimp only at hSW); obtain ⟨hSW, hSW2, hSW3⟩ := hSW; go_simp); (all_goals with_reducible rfl))); (try simp only [Act.put, List.setIfInBounds_toArray, List.set_cons_zero, List.set_cons_succ])
      refine wpAnyH_take (i := 8) (oi := ⟨some 50, _, _, _, _, _⟩) (v := ?_) rfl (by kernel_rfl) (by kernel_rfl) (by kernel_rfl) (fun _ _ _ h => h) (Or.inl ⟨by rfl, ?hyt8⟩) (by assumption) ?_; (case hyt8 => ((intro W hSW; (try dsimp only at hSW); obtain ⟨hSW, hSW2, hSW3⟩ := hSW; go_simp); (all_goals with_reducible rfl))); (try simp only [Act.put, List.setIfInBounds_toArray, List.set_cons_zero, List.set_cons_succ])
      refine wpAnyH_take (i := 9) (oi := ⟨some 51, _, _, _, _, _⟩) (v := ?_) rfl (by kernel_rfl) (by kernel_rfl) (by kernel_rfl) (fun _ _ _ h => h) (Or.inl ⟨by rfl, ?hyt9⟩) (by assumption) ?_; (case hyt9 => ((intro W hSW; (try dsimp only at hSW); obtain ⟨hSW, hSW2, hSW3⟩ := hSW; go_simp); (all_goals with_reducible rfl))); (try simp only [Act.put, List.setIfInBounds_toArray, List.set_cons_zero, List.set_cons_succ])
      refine wpAnyH_take (i := 10) (oi := ⟨some 52, _, _, _, _, _⟩) (v := ?_) rfl (by kernel_rfl) (by kernel_rfl) (by kernel_rfl) (fun _ _ _ h => h) (Or.inl ⟨by rfl, ?hyt10⟩) (by assumption) ?_; (case hyt10 => ((intro W hSW; (try dsimp only at hSW); obtain ⟨hSW, hSW2, hSW3⟩ := hSW; go_simp); (all_goals with_reducible rfl))); (try simp only [Act.put, List.setIfInBounds_toArray, List.set_cons_zero, List.set_cons_succ])
      refine wpAnyH_take (i := 11) (oi := ⟨some 53, _, _, _, _, _⟩) (v := ?_) rfl (by kernel_rfl) (by kernel_rfl) (by kernel_rfl) (fun _ _ _ h => h) (Or.inl ⟨by rfl, ?hyt11⟩) (by assumption) ?_; (case hyt11 => ((intro W hSW; (try dsimp only at hSW); obtain ⟨hSW, hSW2, hSW3⟩ := hSW; go_simp); (all_goals with_reducible rfl))); (try simp only [Act.put, List.setIfInBounds_toArray, List.set_cons_zero, List.set_cons_succ])
      refine wpAnyH_take (i := 12) (oi := ⟨some 54, _, _, _, _, _⟩) (v := ?_) rfl (by kernel_rfl) (by kernel_rfl) (by kernel_rfl) (fun _ _ _ h => h) (Or.inl ⟨by rfl, ?hyt12⟩) (by assumption) ?_; (case hyt12 => ((intro W hSW; (try dsimp only at hSW); obtain ⟨hSW, hSW2, hSW3⟩ := hSW; go_simp); (all_goals with_reducible rfl))); (try simp only [Act.put, List.setIfInBounds_toArray, List.set_cons_zero, List.set_cons_succ])
      refine wpAnyH_take (i := 13) (oi := ⟨some 55, _, _, _, _, _⟩) (v := ?_) rfl (by kernel_rfl) (by kernel_rfl) (by kernel_rfl) (fun _ _ _ h => h) (Or.inl ⟨by rfl, ?hyt13⟩) (by assumption) ?_; (case hyt13 => ((intro W hSW; (try dsimp only at hSW); obtain ⟨hSW, hSW2, hSW3⟩ := hSW; go_simp); (all_goals with_reducible rfl))); (try simp only [Act.put, List.setIfInBounds_toArray, List.set_cons_zero, List.set_cons_succ])
      refine wpAnyH_ready (rs := [7]) (by kernel_rfl) (by simp) ?_; refine AllReadyH.cons (o := ⟨some 49, _, _, _, _, _⟩) rfl (fun K hK => ?_) AllReadyH.nil; go_simp
      go_at_call 50
      refine (HT.out _).mono ?_; rintro e w7 ⟨rfl, hb8⟩
      have HC1 : Below wr.heap.size wr w7 := HD2.trans (hb8.mono HD2.size)
      (try go_simp)
      refine hK.out _ _ (E2.out _ HC1) (fun hHeld2 => ?_)
      clear hK K hHeld
      (try simp only [Act.put, List.setIfInBounds_toArray, List.set_cons_zero, List.set_cons_succ])
      refine wpAnyH_ready (rs := [14]) (by kernel_rfl) (by simp) ?_; refine AllReadyH.cons (o := ⟨some 56, _, _, _, _, _⟩) rfl (fun K hK => ?_) AllReadyH.nil; go_simp
      go_at_call 51
      refine (HS.out _).mono ?_; rintro e w14 ⟨rfl, hb9⟩
      have HC2 : Below wr.heap.size wr w14 := hb9 ▸ HC1
      (try go_simp)
      refine hK.out _ _ (E2.out _ HC2) (fun hHeld3 => ?_)
      clear hK K hHeld2
      (try simp only [Act.put, List.setIfInBounds_toArray, List.set_cons_zero, List.set_cons_succ])
      refine wpAnyH_ready (rs := [15]) (by kernel_rfl) (by simp) ?_; refine AllReadyH.cons (o := ⟨some 57, _, _, _, _, _⟩) rfl (fun K hK => ?_) AllReadyH.nil; go_simp
      go_at_call 49
      refine (HN.out _).mono ?_; rintro e w15 ⟨rfl, hb10⟩
      have HC3 : Below wr.heap.size wr w15 := HC2.trans (hb10.mono HC2.size)
      (try go_simp)
      refine hK.out _ _ (E2.out _ HC3) (fun hHeld4 => ?_)
      clear hK K hHeld3
      (try simp only [Act.put, List.setIfInBounds_toArray, List.set_cons_zero, List.set_cons_succ])
      refine wpAnyH_take (i := 16) (oi := ⟨some 58, _, _, _, _, _⟩) (v := ?_) rfl (by kernel_rfl) (by kernel_rfl) (by kernel_rfl) (fun _ _ _ h => h) (Or.inl ⟨by rfl, ?hyt16⟩) (by assumption) ?_; (case hyt16 => ((intro W hSW; (try dsimp only at hSW); obtain ⟨hSW, hSW2, hSW3⟩ := hSW; go_simp); (all_goals with_reducible rfl))); (try simp only [Act.put, List.setIfInBounds_toArray, List.set_cons_zero, List.set_cons_succ])
      refine wpAnyH_take (i := 17) (oi := ⟨some 59, _, _, _, _, _⟩) (v := ?_) rfl (by kernel_rfl) (by kernel_rfl) (by kernel_rfl) (fun _ _ _ h => h) (Or.inl ⟨by rfl, ?hyt17⟩) (by assumption) ?_; (case hyt17 => ((intro W hSW; (try dsimp only at hSW); obtain ⟨hSW, hSW2, hSW3⟩ := hSW; go_simp); (all_goals with_reducible rfl))); (try simp only [Act.put, List.setIfInBounds_toArray, List.set_cons_zero, List.set_cons_succ])
      refine wpAnyH_take (i := 18) (oi := ⟨some 3, _, _, _, _, _⟩) (v := ?_) rfl (by kernel_rfl) (by kernel_rfl) (by kernel_rfl) (fun _ _ _ h => h) (Or.inl ⟨by rfl, ?hyt18⟩) (by assumption) ?_; (case hyt18 => ((intro W hSW; (try dsimp only at hSW); obtain ⟨hSW, hSW2, hSW3⟩ := hSW; go_simp); (all_goals with_reducible rfl))); (try simp only [Act.put, List.setIfInBounds_toArray, List.set_cons_zero, List.set_cons_succ])
      refine wpAnyH_done (by kernel_rfl) ?_ _
      refine NoPanic.normal ?_
      clear hHeld4
      go_wp2_with fail
      go_roundw
      case rel => exact ⟨k + 1, by omega, by go_num, by rw [hP.out]; simp only [List.append_assoc, ba_appP], by rw [hP.out]; simp only [List.length_append]; omega, hB.trans (HC3.mono hB.size)⟩
      case measure => simp [intOf] <;> omega
    · obtain rfl : k = n := by omega
      rw [List.take_of_length_le (by rw [LL.out]; exact Nat.le_refl _)]
      go_wp2_with fail
      go_ret
      exact ⟨by simp, Z7.trans (hB.mono Z7.size)⟩
/-- the reference's Put, of one that may be -/
theorem rmput_any (m : Msg) (q : Option Addr) (n c : Nat) (w : World) (hok : m.ok) (hm : mayM m = true) (hR : RowQ w q n m.props) :
    Calls Tryd.prog 22 #[msgV m q n c] w fun e w' => e = .returned (.string ⟨(putM m).toArray⟩) ∧ Below w.heap.size w w' := by
  have hm0 := hm
  unfold mayM at hm
  by_cases k1 : m.kind = 1
  · rw [if_pos k1] at hm
    have := of_decide_eq_true hm
    exact rput1 m q n c w hok (.inl k1) (by omega)
  rw [if_neg k1] at hm
  by_cases k2 : m.kind = 2
  · rw [if_pos k2, Bool.and_eq_true, Bool.and_eq_true, decide_eq_true_iff, decide_eq_true_iff] at hm
    have hl := hR.length
    have hs := hok.seq
    have ha := hok.at_
    have e : putM m = enc m.seq ++ enc m.at_.toNat ++ enc n ++ propsB m.props := by
      unfold putM
      rw [if_neg k1, if_neg (by rw [k2]; decide), if_neg (by rw [k2]; decide), hl]
    rw [e]
    unfold msgV
    rw [k2]
    obtain ⟨u, hu⟩ : ∃ u : Nat, m.at_ = (u : Int) := ⟨m.at_.toNat, by omega⟩
    rw [hu, Int.toNat_natCast]
    exact rput2 m.seq u n q c m.props w (by omega) (by omega) (by omega) hR (fun i hi => by have := name_len (right_name hm.2.1 (i := i) (by omega)); omega) hok.props
  rw [if_neg k2] at hm
  by_cases k3 : m.kind = 3
  · rw [if_pos k3] at hm
    have := of_decide_eq_true hm
    exact rput1 m q n c w hok (.inr (.inl k3)) (by omega)
  rw [if_neg k3] at hm
  by_cases k4 : m.kind = 4
  · rw [if_pos k4] at hm
    have := of_decide_eq_true hm
    exact rput1 m q n c w hok (.inr (.inr k4)) (by omega)
  rw [if_neg k4] at hm
  cases hm
end Go.Proofs.YtfphffkgacajdaaDoor
/- message.Put. -/
namespace Go.Proofs.YtfphffkgacajdaaDoor
open Go.RowKit Oct
set_option linter.unusedVariables false
set_option linter.unusedSimpArgs false
set_option maxHeartbeats 4000000
set_option maxRecDepth 20000
theorem rowI_mkM {k : IntKind} {w : World} {g len : Nat} {zs : List Int} (hg : g < w.heap.size) (hl : zs.length = len) (hm : len ≤ 1000) (hw : ∀ n ∈ zs, (Lit.int k n).wf = true) (hc : ∀ i, i < len → w.cell? ⟨g, i, none⟩ = some (.int k (zs.getD i 0))) : RowI k w (some ⟨g, 0, none⟩) len len zs :=
  ⟨hl, by unfold maxLen; omega, Nat.le_refl _, hw, .inr ⟨g, 0, rfl, hg, fun i hi => by rw [Nat.zero_add]; exact hc i hi⟩, fun e => by cases e⟩
theorem _root_.Go.Proofs.YtfphffkgacajdaaDoor.OwnB.lower {t : TypeId} {base base' : Nat} {w : World} {v : Value} {l : List UInt8} (h : OwnB t base w v l) (hb : base' ≤ base) : OwnB t base' w v l := by
  refine ⟨⟨h.owns.1, ?_⟩, h.small⟩
  rcases h.owns.2 with hn | ⟨g, cap, cur, hv, hbb, rest⟩
  · exact .inl hn
  · exact .inr ⟨g, cap, cur, hv, Nat.le_trans hb hbb, rest⟩
theorem mput_not (m : Msg) (q : Option Addr) (n c : Nat) (w : World) (hok : m.ok) (hm : mayM m = false) (hR : RowQ w q n m.props) :
    Calls Tryd.prog 18 #[msgV m q n c] w fun e w' => e = .returned (.tuple #[.slice none 0 0, .int .i64 1]) ∧ Below w.heap.size w w' := by
  have HM := Lib.hid (fun W h => mmay_any m q n c W hok h)
  rw [hm] at HM
  have HR := Lib.hid hR
  clear hR hm
  unfold msgV at HM ⊢
  generalize (m.kind.toNat : Int) = k at *
  generalize (m.seq : Int) = s at *
  generalize m.at_ = a at *
  go_enter Tryd.func18, Tryd.ntmps18
  go_wp2_with fail
  refine (HM.out _ (HR.out.below (by repeat (first | with_reducible exact Below.refl _ _ | with_reducible refine Below.drew ?_ | with_reducible refine Below.alloc ?_ (by (try simp) <;> omega) _ | with_reducible refine Below.setCell ?_ (by (try simp) <;> omega) _)))).mono ?_; rintro e w5 ⟨rfl, hb5⟩
  go_wp2_with fail
  exact bodyPost_ret (v := .tuple #[.slice none 0 0, .int .i64 1]) (by simp [results, Tryd.results18, go_sem]) rfl ⟨rfl, (by repeat (first | with_reducible exact Below.refl _ _ | with_reducible refine Below.trans ?_ (Below.mono hb9 (by (try simp) <;> omega)) | with_reducible refine Below.trans ?_ (Below.mono hb8 (by (try simp) <;> omega)) | with_reducible refine Below.trans ?_ (Below.mono hb7 (by (try simp) <;> omega)) | with_reducible refine Below.trans ?_ (Below.mono hb6 (by (try simp) <;> omega)) | with_reducible refine Below.trans ?_ (Below.mono hb5 (by (try simp) <;> omega)) | with_reducible refine Below.trans ?_ (Below.mono hb4 (by (try simp) <;> omega)) | with_reducible refine Below.trans ?_ (Below.mono hb3 (by (try simp) <;> omega)) | with_reducible refine Below.trans ?_ (Below.mono hb2 (by (try simp) <;> omega)) | with_reducible refine Below.trans ?_ (Below.mono hb1 (by (try simp) <;> omega)) | with_reducible refine Below.drew ?_ | with_reducible refine Below.alloc ?_ (by (try simp) <;> omega) _ | with_reducible refine Below.setCell ?_ (by (try simp) <;> omega) _))⟩
theorem mput4 (m : Msg) (q : Option Addr) (n c : Nat) (w : World) (hok : m.ok) (hm : mayM m = true) (hk : m.kind = 4) (hR : RowQ w q n m.props) :
    Calls Tryd.prog 18 #[msgV m q n c] w fun e w' => e = .returned (.tuple #[.slice none 0 0, .int .i64 0]) ∧ Below w.heap.size w w' := by
  have HM := Lib.hid (fun W h => mmay_any m q n c W hok h)
  rw [hm] at HM
  have HR := Lib.hid hR
  clear hR hm
  unfold msgV at HM ⊢
  rw [hk] at HM ⊢
  generalize (m.seq : Int) = s at *
  generalize m.at_ = a at *
  obtain ⟨W1, eW1⟩ : ∃ W, w.alloc (.cells #[.int .u8 4, .int .u64 s, .int .i64 a, .slice q n c] 25) = W := ⟨_, rfl⟩
  have z1 : W1.heap.size = w.heap.size + 1 := by rw [← eW1]; simp
  have B1 : Below w.heap.size w W1 := by rw [← eW1]; exact (Below.refl _ _).alloc (Nat.le_refl _) _
  have a0 : W1.cell? ⟨w.heap.size, 0, none⟩ = some (.int .u8 4) := by rw [← eW1]; simp [go_sem]
  have a1 : W1.cell? ⟨w.heap.size, 1, none⟩ = some (.int .u64 s) := by rw [← eW1]; simp [go_sem]
  have a2 : W1.cell? ⟨w.heap.size, 2, none⟩ = some (.int .i64 a) := by rw [← eW1]; simp [go_sem]
  have a3 : W1.cell? ⟨w.heap.size, 3, none⟩ = some (.slice q n c) := by rw [← eW1]; simp [go_sem]
  go_enter Tryd.func18, Tryd.ntmps18
  go_wp2_with fail
  refine (HM.out _ (HR.out.below B1)).mono ?_; rintro e w5 ⟨rfl, hb5⟩
  have y0 := (hb5.cell (p := ⟨w.heap.size, 0, none⟩) (by simp; omega)).trans a0
  go_wp2_with fail
  exact bodyPost_ret (v := .tuple #[.slice none 0 0, .int .i64 0]) (by simp [results, Tryd.results18, go_sem]) rfl ⟨rfl, B1.trans (hb5.mono B1.size)⟩
theorem mput1 (m : Msg) (q : Option Addr) (n c : Nat) (w : World) (hok : m.ok) (hm : mayM m = true) (hk : m.kind = 1) (hR : RowQ w q n m.props) :
    Calls Tryd.prog 18 #[msgV m q n c] w fun e w' => ∃ v', e = .returned (.tuple #[v', .int .i64 0]) ∧ OwnB 5 w.heap.size w' v' (enc m.seq) ∧ Below w.heap.size w w' := by
  have HM := Lib.hid (fun W h => mmay_any m q n c W hok h)
  rw [hm] at HM
  have HR := Lib.hid hR
  have hs := hok.seq
  clear hR hm
  unfold msgV at HM ⊢
  rw [hk] at HM ⊢
  generalize m.seq = s at *
  generalize m.at_ = a at *
  obtain ⟨W1, eW1⟩ : ∃ W, w.alloc (.cells #[.int .u8 1, .int .u64 (s : Int), .int .i64 a, .slice q n c] 25) = W := ⟨_, rfl⟩
  have z1 : W1.heap.size = w.heap.size + 1 := by rw [← eW1]; simp
  have B1 : Below w.heap.size w W1 := by rw [← eW1]; exact (Below.refl _ _).alloc (Nat.le_refl _) _
  have a0 : W1.cell? ⟨w.heap.size, 0, none⟩ = some (.int .u8 1) := by rw [← eW1]; simp [go_sem]
  have a1 : W1.cell? ⟨w.heap.size, 1, none⟩ = some (.int .u64 (s : Int)) := by rw [← eW1]; simp [go_sem]
  have a2 : W1.cell? ⟨w.heap.size, 2, none⟩ = some (.int .i64 a) := by rw [← eW1]; simp [go_sem]
  have a3 : W1.cell? ⟨w.heap.size, 3, none⟩ = some (.slice q n c) := by rw [← eW1]; simp [go_sem]
  go_enter Tryd.func18, Tryd.ntmps18
  go_wp2_with fail
  refine (HM.out _ (HR.out.below B1)).mono ?_; rintro e w5 ⟨rfl, hb5⟩
  have y0 := (hb5.cell (p := ⟨w.heap.size, 0, none⟩) (by simp; omega)).trans a0
  have y1 := (hb5.cell (p := ⟨w.heap.size, 1, none⟩) (by simp; omega)).trans a1
  have B5 := B1.trans (hb5.mono B1.size)
  have z5 := B5.size
  go_wp2_with fail
  refine (puts_any _ 1 1 [(s : Int)] _ (rowI_mkM (by simp) rfl (by omega) (fun x hx => by
    rw [List.mem_singleton] at hx
    subst hx
    simp only [Lit.wf, IntKind.min, IntKind.max, IntKind.signed, IntKind.bits, Bool.and_eq_true, decide_eq_true_eq, if_true, Bool.false_eq_true, if_false]
    constructor <;> omega) (fun i hi => by
    have h4 : i = 0 := by omega
    subst h4; simp [go_sem])) (by omega)).mono ?_; rintro e w6 ⟨v6, rfl, hO6, hb6⟩
  have hO := Lib.hid hO6
  clear hO6
  have y0' := ((hb6.cell (p := ⟨w.heap.size, 0, none⟩) (by simp; omega))).trans (show _ = some (.int .u8 1) by first | simp [go_sem, y0] | (rw [World.cell?_alloc_some _ _ _ (by rw [y0]; rfl)]; exact y0))
  go_wp2_with fail
  have B56 : Below w.heap.size w w6 := (B5.alloc B5.size _).trans (hb6.mono (by simp; omega))
  exact bodyPost_ret (v := .tuple #[v6, .int .i64 0]) (by simp [results, Tryd.results18, go_sem]) rfl ⟨v6, rfl, by have := hO.out.lower (base' := w.heap.size) (by simp; omega); simpa [encAll] using this, B56⟩
theorem mput3 (m : Msg) (q : Option Addr) (n c : Nat) (w : World) (hok : m.ok) (hm : mayM m = true) (ha0 : 0 ≤ m.at_) (hk : m.kind = 3) (hR : RowQ w q n m.props) :
    Calls Tryd.prog 18 #[msgV m q n c] w fun e w' => ∃ v', e = .returned (.tuple #[v', .int .i64 0]) ∧ OwnB 5 w.heap.size w' v' (enc m.at_.toNat) ∧ Below w.heap.size w w' := by
  have HM := Lib.hid (fun W h => mmay_any m q n c W hok h)
  rw [hm] at HM
  have HR := Lib.hid hR
  have hs := hok.at_
  clear hR hm
  unfold msgV at HM ⊢
  rw [hk] at HM ⊢
  generalize m.seq = s0 at *
  generalize m.at_ = a at *
  obtain ⟨s, rfl⟩ : ∃ s : Nat, a = (s : Int) := ⟨a.toNat, by omega⟩
  have hcv : IntKind.u64.wrap (s : Int) = (s : Int) := IntWalk.u64_in _ (by omega)
  rw [Int.toNat_natCast]
  obtain ⟨W1, eW1⟩ : ∃ W, w.alloc (.cells #[.int .u8 3, .int .u64 (s0 : Int), .int .i64 (s : Int), .slice q n c] 25) = W := ⟨_, rfl⟩
  have z1 : W1.heap.size = w.heap.size + 1 := by rw [← eW1]; simp
  have B1 : Below w.heap.size w W1 := by rw [← eW1]; exact (Below.refl _ _).alloc (Nat.le_refl _) _
  have a0 : W1.cell? ⟨w.heap.size, 0, none⟩ = some (.int .u8 3) := by rw [← eW1]; simp [go_sem]
  have a1 : W1.cell? ⟨w.heap.size, 1, none⟩ = some (.int .u64 (s0 : Int)) := by rw [← eW1]; simp [go_sem]
  have a2 : W1.cell? ⟨w.heap.size, 2, none⟩ = some (.int .i64 (s : Int)) := by rw [← eW1]; simp [go_sem]
  have a3 : W1.cell? ⟨w.heap.size, 3, none⟩ = some (.slice q n c) := by rw [← eW1]; simp [go_sem]
  go_enter Tryd.func18, Tryd.ntmps18
  go_wp2_with fail
  refine (HM.out _ (HR.out.below B1)).mono ?_; rintro e w5 ⟨rfl, hb5⟩
  have y0 := (hb5.cell (p := ⟨w.heap.size, 0, none⟩) (by simp; omega)).trans a0
  have y1 := (hb5.cell (p := ⟨w.heap.size, 2, none⟩) (by simp; omega)).trans a2
  have B5 := B1.trans (hb5.mono B1.size)
  have z5 := B5.size
  go_wp2_with fail
  refine (puts_any _ 1 1 [(s : Int)] _ (rowI_mkM (by simp) rfl (by omega) (fun x hx => by
    rw [List.mem_singleton] at hx
    subst hx
    simp only [Lit.wf, IntKind.min, IntKind.max, IntKind.signed, IntKind.bits, Bool.and_eq_true, decide_eq_true_eq, if_true, Bool.false_eq_true, if_false]
    constructor <;> omega) (fun i hi => by
    have h4 : i = 0 := by omega
    subst h4; simp [go_sem])) (by omega)).mono ?_; rintro e w6 ⟨v6, rfl, hO6, hb6⟩
  have hO := Lib.hid hO6
  clear hO6
  have y0' := ((hb6.cell (p := ⟨w.heap.size, 0, none⟩) (by simp; omega))).trans (show _ = some (.int .u8 3) by first | simp [go_sem, y0] | (rw [World.cell?_alloc_some _ _ _ (by rw [y0]; rfl)]; exact y0))
  have B56 : Below w.heap.size w w6 := (B5.alloc B5.size _).trans (hb6.mono (by simp; omega))
  have he6 : encAll [(s : Int)] = enc s := by simp [encAll]
  have hO2 := hO.out
  rw [he6] at hO2
  obtain ⟨q6, c6, rfl, hR6, _⟩ := hO2.row
  have hl6 := enc_le s
  clear hO he6 hO2
  generalize hbs : enc s = bs at *
  replace hbs := Lib.hid hbs
  have z6 := B56.size
  have z66 : w.heap.size < w6.heap.size := by have h1 := hb6.size; have h2 := hb5.size; simp at h1; omega
  go_wp2_with (at_builtin; refine append_bytes 31 5 info8 Tryd.underlying31 rfl _ _ rfl w.heap.size (.slice none 0 0) [] 0 rfl rfl (OwnB.nil _ _ _) q6 bs.length c6 bs rfl hR6 (by omega) z6 ?_; intro q7 c7 w7 hO7 hR7 hG7; have B7 : Below w.heap.size w w7 := B56.grown hG7 B56.size (fun k hk => by cases hk); have y7 := Lib.hid hO7; have D67 : Below w6.heap.size w6 w7 := (Below.refl _ _).grown hG7 (Nat.le_refl _) (fun k hk => (by cases hk)); have y00 := (D67.cell (p := ⟨w.heap.size, 0, none⟩) z66).trans y0'; clear hO7)
  first | exact bodyPost_ret (v := .tuple #[.slice q7 bs.length c7, .int .i64 0]) (by simp [results, Tryd.results18, go_sem]) rfl ⟨.slice q7 bs.length c7, rfl, by rw [hbs.out]; simpa using y7.out, B7⟩ | go_wp2_with fail; exact bodyPost_ret (v := .tuple #[.slice q7 bs.length c7, .int .i64 0]) (by simp [results, Tryd.results18, go_sem]) rfl ⟨.slice q7 bs.length c7, rfl, by rw [hbs.out]; simpa using y7.out, B7⟩
end Go.Proofs.YtfphffkgacajdaaDoor
/- message.Put of an event. -/
namespace Go.Proofs.YtfphffkgacajdaaDoor
open Go.RowKit Oct
set_option linter.unusedVariables false
set_option linter.unusedSimpArgs false
set_option maxHeartbeats 4000000
set_option maxRecDepth 20000
/-- octet.Put of one number -/
theorem put_one (s : Nat) (hs : s ≤ 18446744073709551615) (w : World) (g : Nat) (hg : g < w.heap.size) (hc : w.cell? ⟨g, 0, none⟩ = some (.int .u64 (s : Int))) :
    Calls Tryd.prog 43 #[.slice (some ⟨g, 0, none⟩) 1 1] w fun e w' => ∃ q m c, e = .returned (.slice q m c) ∧ m ≤ 9 ∧ m = (enc s).length ∧ OwnB 5 w.heap.size w' (.slice q m c) (enc s) ∧ RowB w' q m c (enc s) ∧ Below w.heap.size w w' := by
  refine (puts_any _ 1 1 [(s : Int)] w (rowI_mkM hg rfl (by omega) (fun x hx => by
    rw [List.mem_singleton] at hx
    subst hx
    simp only [Lit.wf, IntKind.min, IntKind.max, IntKind.signed, IntKind.bits, Bool.and_eq_true, decide_eq_true_eq, if_true, Bool.false_eq_true, if_false]
    constructor <;> omega) (fun i hi => by
    have h4 : i = 0 := by omega
    subst h4; simpa using hc)) (by omega)).mono ?_
  rintro e w' ⟨v, rfl, hO, hb⟩
  have he : encAll [(s : Int)] = enc s := by simp [encAll]
  rw [he] at hO
  obtain ⟨q, c, rfl, hR, _⟩ := hO.row
  exact ⟨q, (enc s).length, c, rfl, enc_le s, rfl, hO, hR, hb⟩
/-- octet.Texts of one text -/
theorem text_one (t : List UInt8) (ht : t.length ≤ 1000) (w : World) (g : Nat) (hg : g < w.heap.size) (hc : w.cell? ⟨g, 0, none⟩ = some (.string ⟨t.toArray⟩)) :
    Calls Tryd.prog 44 #[.slice (some ⟨g, 0, none⟩) 1 1] w fun e w' => ∃ q m c, e = .returned (.slice q m c) ∧ m ≤ 1009 ∧ m = (encText ⟨t.toArray⟩).length ∧ OwnB 5 w.heap.size w' (.slice q m c) (encText ⟨t.toArray⟩) ∧ RowB w' q m c (encText ⟨t.toArray⟩) ∧ Below w.heap.size w w' := by
  have hz := ba_sizeP t
  have hR : RowT w (some ⟨g, 0, none⟩) 1 [⟨t.toArray⟩] := ⟨rfl, by unfold maxLen; omega, fun s hs => by
    rw [List.mem_singleton] at hs; subst hs; unfold maxLen; omega, .inr ⟨g, 0, rfl, hg, fun i hi => by
    have h4 : i = 0 := by omega
    subst h4; simpa using hc⟩⟩
  refine (texts_any _ 1 1 [⟨t.toArray⟩] w hR (by omega) (fun s hs => by rw [List.mem_singleton] at hs; subst hs; omega)).mono ?_
  rintro e w' ⟨v, rfl, hO, hb⟩
  have he : encTexts [(⟨t.toArray⟩ : ByteArray)] = encText ⟨t.toArray⟩ := by simp [encTexts]
  have hle := encTexts_le [(⟨t.toArray⟩ : ByteArray)] (fun s hs => by rw [List.mem_singleton] at hs; subst hs; omega)
  rw [he] at hO hle
  obtain ⟨q, c, rfl, hR, _⟩ := hO.row
  exact ⟨q, (encText ⟨t.toArray⟩).length, c, rfl, by simpa using hle, rfl, hO, hR, hb⟩
theorem mput2 (s u n : Nat) (q : Option Addr) (c : Nat) (l : List Pr) (w : World) (hs : s ≤ 18446744073709551615) (hu : u ≤ 9223372036854775807) (hn : n ≤ 8) (hok : okPs l) (hR : RowQ w q n l) (hnm : ∀ i, i < n → (l.getD i prD).name.length ≤ 12)
    (hM : ∀ W, RowQ W q n l → Calls Tryd.prog 19 #[.agg #[.int .u8 2, .int .u64 (s : Int), .int .i64 (u : Int), .slice q n c]] W fun e w' => e = .returned (.bool true) ∧ Below W.heap.size W w') :
    Calls Tryd.prog 18 #[.agg #[.int .u8 2, .int .u64 (s : Int), .int .i64 (u : Int), .slice q n c]] w fun e w' => ∃ v', e = .returned (.tuple #[v', .int .i64 0]) ∧ OwnB 5 w.heap.size w' v' (enc s ++ enc u ++ enc n ++ propsB l) ∧ Below w.heap.size w w' := by
  have LL := Lib.hid hR.length
  have HM := Lib.hid hM
  have HR := Lib.hid hR
  have HP1 := Lib.hid (fun W g hg hc => put_one s (by omega) W g hg hc)
  have HP2 := Lib.hid (fun W g hg hc => put_one u (by omega) W g hg hc)
  have HP3 := Lib.hid (fun W g hg hc => put_one n (by omega) W g hg hc)
  clear hM
  have hcv : IntKind.u64.wrap (u : Int) = (u : Int) := IntWalk.u64_in _ (by omega)
  have hcv2 : IntKind.u64.wrap (n : Int) = (n : Int) := IntWalk.u64_in _ (by omega)
  generalize enc s = e1 at *
  generalize enc u = e2 at *
  generalize enc n = e3 at *
  obtain ⟨W1, eW1⟩ : ∃ W, w.alloc (.cells #[.int .u8 2, .int .u64 (s : Int), .int .i64 (u : Int), .slice q n c] 25) = W := ⟨_, rfl⟩
  have z1 : W1.heap.size = w.heap.size + 1 := by rw [← eW1]; simp
  have B1 : Below w.heap.size w W1 := by rw [← eW1]; exact (Below.refl _ _).alloc (Nat.le_refl _) _
  have a0 : W1.cell? ⟨w.heap.size, 0, none⟩ = some (.int .u8 2) := by rw [← eW1]; simp [go_sem]
  have a1 : W1.cell? ⟨w.heap.size, 1, none⟩ = some (.int .u64 (s : Int)) := by rw [← eW1]; simp [go_sem]
  have a2 : W1.cell? ⟨w.heap.size, 2, none⟩ = some (.int .i64 (u : Int)) := by rw [← eW1]; simp [go_sem]
  have a3 : W1.cell? ⟨w.heap.size, 3, none⟩ = some (.slice q n c) := by rw [← eW1]; simp [go_sem]
  have E : ∀ W, Below W1.heap.size W1 W → W.cell? ⟨w.heap.size, 0, none⟩ = some (.int .u8 2) ∧ W.cell? ⟨w.heap.size, 1, none⟩ = some (.int .u64 (s : Int)) ∧ W.cell? ⟨w.heap.size, 2, none⟩ = some (.int .i64 (u : Int)) ∧ W.cell? ⟨w.heap.size, 3, none⟩ = some (.slice q n c) ∧ w.heap.size < W.heap.size := fun W hW =>
    ⟨(hW.cell (p := ⟨w.heap.size, 0, none⟩) (by simp; omega)).trans a0, (hW.cell (p := ⟨w.heap.size, 1, none⟩) (by simp; omega)).trans a1, (hW.cell (p := ⟨w.heap.size, 2, none⟩) (by simp; omega)).trans a2, (hW.cell (p := ⟨w.heap.size, 3, none⟩) (by simp; omega)).trans a3, by have := hW.size; omega⟩
  replace E := Lib.hid E
  replace hok := Lib.hid hok
  replace hnm := Lib.hid hnm
  go_enter Tryd.func18, Tryd.ntmps18
  go_wp2_with fail
  refine (HM.out _ (HR.out.below B1)).mono ?_; rintro e w2 ⟨rfl, hb2⟩
  clear a0 a1 a2 a3
  obtain ⟨x0, x1, x2, x3, x4⟩ := E.out _ hb2
  go_wp2_with fail
  refine (HP1.out _ w2.heap.size (by simp) (by simp [go_sem])).mono ?_; rintro e w3 ⟨q3, m3, c3, rfl, hm3, ln3, hO3, hR3, hb3⟩
  have B3 : Below W1.heap.size W1 w3 := (hb2.alloc hb2.size _).trans (hb3.mono (by have := hb2.size; simp; omega))
  replace hO3 := Lib.hid (hO3.lower (base' := W1.heap.size) (by have := hb2.size; simp; omega))
  clear x0 x1 x2 x3 x4 hb2 hR3 hb3
  obtain ⟨x0, x1, x2, x3, x4⟩ := E.out _ B3
  replace ln3 := Lib.hid ln3
  go_wp2_with fail
  refine (HP2.out _ w3.heap.size (by simp) (by simp [go_sem])).mono ?_; rintro e w4 ⟨q4, m4, c4, rfl, hm4, ln4, hO4, hR4, hb4⟩
  have b4 : Below w3.heap.size w3 w4 := ((Below.refl _ _).alloc (Nat.le_refl _) _).trans (hb4.mono (by simp))
  have B4 := B3.trans (b4.mono B3.size)
  replace hO3 := Lib.hid (hO3.out.below b4)
  replace hR4 := Lib.hid hR4
  replace ln4 := Lib.hid ln4
  clear x0 x1 x2 x3 x4 hO4 hb4 b4
  obtain ⟨x0, x1, x2, x3, x4⟩ := E.out _ B4
  have hz4 := B4.size
  go_wp2_with (at_builtin; refine append_bytes 31 5 info8 Tryd.underlying31 rfl _ _ rfl W1.heap.size (.slice q3 m3 c3) e1 m3 ln3.out.symm rfl hO3.out q4 m4 c4 e2 rfl hR4.out (by omega) hz4 ?_; intro q5 c5 w5 hO5 hR5 hG5; have B5 : Below W1.heap.size W1 w5 := B4.grown hG5 hz4 (fun k hk => (hO3.out.owns.lt k hk).1); replace hO5 := Lib.hid hO5; clear hR5 hG5 x0 x1 x2 x3 x4; obtain ⟨x0, x1, x2, x3, x4⟩ := E.out _ B5)
  refine (HP3.out _ w5.heap.size (by simp) (by simp [go_sem])).mono ?_; rintro e w6 ⟨q6, m6, c6, rfl, hm6, ln6, hO6, hR6, hb6⟩
  have b6 : Below w5.heap.size w5 w6 := ((Below.refl _ _).alloc (Nat.le_refl _) _).trans (hb6.mono (by simp))
  have B6 := B5.trans (b6.mono B5.size)
  replace hO5 := Lib.hid (hO5.out.below b6)
  replace hR6 := Lib.hid hR6
  replace ln6 := Lib.hid ln6
  clear x0 x1 x2 x3 x4 hO6 hb6 b6
  obtain ⟨x0, x1, x2, x3, x4⟩ := E.out _ B6
  have hz6 := B6.size
  go_wp2_with (at_builtin; refine append_bytes 31 5 info8 Tryd.underlying31 rfl _ _ rfl W1.heap.size (.slice q5 (m3 + m4) c5) (e1 ++ e2) (m3 + m4) (by have := ln3.out; have := ln4.out; rw [List.length_append]; omega) rfl hO5.out q6 m6 c6 e3 rfl hR6.out (by omega) hz6 ?_; intro q7 c7 w7 hO7 hR7 hG7; have B7 : Below W1.heap.size W1 w7 := B6.grown hG7 hz6 (fun k hk => (hO5.out.owns.lt k hk).1); replace hO7 := Lib.hid hO7; clear hR7 hG7 x0 x1 x2 x3 x4; obtain ⟨x0, x1, x2, x3, x4⟩ := E.out _ B7)
  clear hO5 hO3 B3 B4 B5 B6 hz4 hz6 HP1 HP2 HP3
  have hlen : e1.length + e2.length + e3.length ≤ 27 := by have := ln3.out; have := ln4.out; have := ln6.out; omega
  have hmm : Hid (m3 + m4 + m6 = (e1 ++ e2 ++ e3).length) := Lib.hid (by have := ln3.out; have := ln4.out; have := ln6.out; simp only [List.length_append]; omega)
  go_loopw [4, 47] (fun v i wr => ∃ k : Nat, k ≤ n ∧ i = .int .i64 k ∧ OwnB 5 W1.heap.size wr v (e1 ++ e2 ++ e3 ++ propsB (l.take k)) ∧ (propsB (l.take k)).length ≤ 2000 * k ∧ Below W1.heap.size W1 wr) (fun v i wr => n - (intOf i).toNat)
  case atStart => exact ⟨0, Nat.zero_le _, rfl, by simpa [propsB] using hO7.out, by simp [propsB], B7⟩
  case round =>
    obtain ⟨k, hk, rfl, hO, hsz, hB⟩ := hrel
    clear x0 x1 x2 x3 x4 hO7 B7
    obtain ⟨x0, x1, x2, x3, x4⟩ := E.out _ hB
    have hzr := hB.size
    replace hO := Lib.hid hO
    by_cases hlt : k < n
    · obtain ⟨b, off, rfl, hb, hc⟩ := HR.out.at_ (by omega)
      have hk0 : (0 : Int) ≤ (k : Int) := by omega
      have hk1 : (k : Int) < (n : Int) := by omega
      have hkp : k < l.length := by have := LL.out; omega
      have hBw := B1.trans (hB.mono B1.size)
      have y0 := (hBw.cell (p := ⟨b, off + k * 2, none⟩) hb).trans (hc k hlt).1
      have y1 := (hBw.cell (p := ⟨b, off + k * 2 + 1, none⟩) hb).trans (hc k hlt).2
      have hnk := hnm.out k hlt
      have hov := (hok.out k).value
      have hP := propsB_succ l k hkp
      have hpb : propB (l.getD k prD) = encText ⟨(l.getD k prD).name.toArray⟩ ++ enc (signOf (l.getD k prD).value).toNat := rfl
      generalize l.getD k prD = p at *
      obtain ⟨pn, pv⟩ := p
      simp only at *
      have HS := Lib.hid (fun W => sign_any pv hov.1 hov.2 W)
      have hsg := sign_range hov.1 hov.2
      obtain ⟨g, hg⟩ : ∃ g : Nat, signOf pv = (g : Int) := ⟨(signOf pv).toNat, by omega⟩
      rw [hg] at hpb HS hsg
      rw [Int.toNat_natCast] at hpb
      have HT := Lib.hid (fun W g hg hc => text_one pn (by omega) W g hg hc)
      have HN := Lib.hid (fun W g' hg hc => put_one g (by omega) W g' hg hc)
      rw [hpb] at hP
      clear hpb hc hg
      generalize encText ⟨pn.toArray⟩ = e5 at *
      generalize enc g = e6 at *
      generalize propsB (l.take k) = ee at *
      replace hP := Lib.hid hP
      go_wp2_with fail
      refine (HT.out _ (wr.heap.size + 1) (by simp) (by simp [go_sem])).mono ?_; rintro e w8 ⟨q8, m8, c8, rfl, hm8, ln8, hO8, hR8, hb8⟩
      have b8 : Below wr.heap.size wr w8 := (((Below.refl _ _).alloc (Nat.le_refl _) _).alloc (by simp) _).trans (hb8.mono (by simp; omega))
      have B8 := hB.trans (b8.mono hB.size)
      have u1 : w8.cell? ⟨wr.heap.size, 1, none⟩ = some (.int .i64 pv) := (hb8.cell (p := ⟨wr.heap.size, 1, none⟩) (by simp; omega)).trans (by simp [go_sem])
      have hne := Lib.hid (fun j (e : u4.ownBlock = some j) => (hO.out.owns.lt j e).2)
      obtain ⟨nl, hnl⟩ : ∃ nl, (e1 ++ e2 ++ e3 ++ ee).length = nl := ⟨_, rfl⟩
      have hnl2 : nl ≤ 27 + 2000 * 8 := by rw [← hnl]; simp only [List.length_append]; omega
      replace hnl := Lib.hid hnl
      replace hO := Lib.hid (hO.out.below b8)
      have hzz : wr.heap.size < w8.heap.size := by have := hb8.size; simp at this; omega
      replace hR8 := Lib.hid hR8
      replace ln8 := Lib.hid ln8
      clear hO8 hb8 x0 x1 x2 x3 x4 b8
      have hz8 := B8.size
      go_wp2_with (at_builtin; refine append_bytes 31 5 info8 Tryd.underlying31 rfl _ _ rfl W1.heap.size u4 (e1 ++ e2 ++ e3 ++ ee) nl hnl.out rfl hO.out q8 m8 c8 e5 rfl hR8.out (by omega) hz8 ?_; intro q9 c9 w9 hO9 hR9 hG9; have B9 : Below W1.heap.size W1 w9 := B8.grown hG9 hz8 (fun k hk => (hO.out.owns.lt k hk).1); replace hO9 := Lib.hid hO9; have v1 := hG9.cell u1 (fun e => by have := hne.out _ e.symm; simp at this); clear hR9 hG9 u1)
      refine (HS.out _).mono ?_; rintro e w' ⟨rfl, rfl⟩
      have hz9 := B9.size
      go_wp2_with fail
      refine (HN.out _ w9.heap.size (by simp) (by simp [go_sem])).mono ?_; rintro e w10 ⟨q10, m10, c10, rfl, hm10, ln10, hO10, hR10, hb10⟩
      have b10 : Below w9.heap.size w9 w10 := ((Below.refl _ _).alloc (Nat.le_refl _) _).trans (hb10.mono (by simp))
      have B10 := B9.trans (b10.mono B9.size)
      replace hO9 := Lib.hid (hO9.out.below b10)
      replace hR10 := Lib.hid hR10
      replace ln10 := Lib.hid ln10
      clear hO10 hb10 b10 v1
      have hz10 := B10.size
      go_wp2_with (at_builtin; refine append_bytes 31 5 info8 Tryd.underlying31 rfl _ _ rfl W1.heap.size (.slice q9 (nl + m8) c9) (e1 ++ e2 ++ e3 ++ ee ++ e5) (nl + m8) (by rw [List.length_append, hnl.out, ln8.out]) rfl hO9.out q10 m10 c10 e6 rfl hR10.out (by omega) hz10 ?_; intro q11 c11 w11 hO11 hR11 hG11; have B11 : Below W1.heap.size W1 w11 := B10.grown hG11 hz10 (fun k hk => (hO9.out.owns.lt k hk).1); replace hO11 := Lib.hid hO11; clear hR11 hG11)
      go_roundw
      case rel => first | exact ⟨k + 1, by omega, by go_num, by rw [hP.out]; simpa only [List.append_assoc] using hO11.out, by rw [hP.out]; have := ln8.out; have := ln10.out; simp only [List.length_append]; omega, B11⟩ | exact ⟨k + 1, by omega, by omega, by rw [hP.out]; simpa only [List.append_assoc] using hO11.out, by rw [hP.out]; have := ln8.out; have := ln10.out; simp only [List.length_append]; omega⟩ | exact ⟨k + 1, by omega, by omega, by rw [hP.out]; simpa only [List.append_assoc] using hO11.out, by rw [hP.out]; have := ln8.out; have := ln10.out; simp only [List.length_append]; omega, B11⟩
      case measure => simp [intOf] <;> omega
    · obtain rfl : k = n := by omega
      rw [List.take_of_length_le (by rw [LL.out]; exact Nat.le_refl _)] at hO
      go_wp2_with fail
      exact bodyPost_ret (v := .tuple #[u4, .int .i64 0]) (by simp [results, Tryd.results18, go_sem]) rfl ⟨u4, rfl, hO.out.lower (by omega), B1.trans (hB.mono B1.size)⟩
end Go.Proofs.YtfphffkgacajdaaDoor
