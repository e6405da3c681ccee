/- LabMath, LabFns, LabOrd, LabRight, LabRRight. -/
import Derived.Test.YtfphffkgacajdaaDoorKitG
import Derived.Test.YtfphffkgacajdaaDoorOctG
import Derived.Deep.RegionHeld3
import Derived.Deep.QuietTactic
/- Names and propositions, plainly. No program. -/
namespace Go.Proofs.YtfphffkgacajdaaDoor
open Go.RowKit
set_option linter.unusedVariables false

/-- may the letter at j be there? -/
def letOk (s : List UInt8) (j : Nat) : Bool :=
  let c := s.getD j 0
  (decide (97 ≤ c.toNat) && decide (c.toNat ≤ 122)) || (decide (j ≠ 0) && (decide (c.toNat = 95) || (decide (48 ≤ c.toNat) && decide (c.toNat ≤ 57))))
def sTrue : List UInt8 := [116, 114, 117, 101]
def sFalse : List UInt8 := [102, 97, 108, 115, 101]
/-- is it a name? -/
def nameB (s : List UInt8) : Bool := decide (1 ≤ s.length ∧ s.length ≤ 12 ∧ s ≠ sTrue ∧ s ≠ sFalse) && decide (∀ j, j < s.length → letOk s j = true)
theorem name_no {s : List UInt8} {j : Nat} (hj : j < s.length) (h : letOk s j = false) : nameB s = false := by
  unfold nameB
  rw [Bool.and_eq_false_iff]
  right
  rw [decide_eq_false_iff_not]
  intro h2
  rw [h2 j hj] at h
  cases h
theorem name_yes {s : List UInt8} (h1 : 1 ≤ s.length) (h2 : s.length ≤ 12) (h3 : s ≠ sTrue) (h4 : s ≠ sFalse) (h : ∀ j, j < s.length → letOk s j = true) : nameB s = true := by
  unfold nameB
  rw [Bool.and_eq_true]
  exact ⟨decide_eq_true ⟨h1, h2, h3, h4⟩, decide_eq_true h⟩
theorem name_out {s : List UInt8} (h : ¬ (1 ≤ s.length ∧ s.length ≤ 12 ∧ s ≠ sTrue ∧ s ≠ sFalse)) : nameB s = false := by
  unfold nameB
  rw [decide_eq_false h]; rfl
theorem name_len {s : List UInt8} (h : nameB s = true) : 1 ≤ s.length ∧ s.length ≤ 12 := by
  unfold nameB at h
  rw [Bool.and_eq_true, decide_eq_true_iff] at h
  exact ⟨h.1.1, h.1.2.1⟩
/-- a proposition -/
structure Pr where
  name : List UInt8
  value : Int
  deriving DecidableEq
def prD : Pr := ⟨[], 0⟩
structure Pr.ok (p : Pr) : Prop where
  name : p.name.length ≤ maxLen
  value : -9223372036854775808 ≤ p.value ∧ p.value ≤ 9223372036854775807
def prV (p : Pr) : List Value := [.string ⟨p.name.toArray⟩, .int .i64 p.value]
/-- does one stand ahead of another? -/
def aheadB (a b : Pr) : Bool := Op.bytesLess a.name b.name || (a.name == b.name && decide (a.value < b.value))
/-- are they in order, each once? -/
def rightAt (l : List Pr) (i : Nat) : Bool := nameB (l.getD i prD).name && (decide (i = 0) || aheadB (l.getD (i - 1) prD) (l.getD i prD))
def rightB (l : List Pr) : Bool := decide (∀ i, i < l.length → rightAt l i = true)
theorem right_no {l : List Pr} {i : Nat} (hi : i < l.length) (h : rightAt l i = false) : rightB l = false := by
  unfold rightB
  rw [decide_eq_false_iff_not]
  intro h2
  rw [h2 i hi] at h
  cases h
theorem right_yes {l : List Pr} (h : ∀ i, i < l.length → rightAt l i = true) : rightB l = true := decide_eq_true h
theorem right_nil : rightB [] = true := right_yes (fun i hi => by simp at hi)
theorem right_name {l : List Pr} (h : rightB l = true) {i : Nat} (hi : i < l.length) : nameB (l.getD i prD).name = true := by
  unfold rightB at h
  rw [decide_eq_true_iff] at h
  have := h i hi
  unfold rightAt at this
  rw [Bool.and_eq_true] at this
  exact this.1
/-! a message -/
structure Msg where
  kind : UInt8
  seq : Nat
  at_ : Int
  props : List Pr
/-- may it be? -/
def mayM (m : Msg) : Bool :=
  if m.kind = 1 then decide (m.at_ = 0 ∧ m.props = [])
  else if m.kind = 2 then decide (m.props.length ≤ 8) && (rightB m.props && decide (0 ≤ m.at_))
  else if m.kind = 3 then decide (0 ≤ m.at_ ∧ m.seq = 0 ∧ m.props = [])
  else if m.kind = 4 then decide (m.seq = 0 ∧ m.at_ = 0 ∧ m.props = [])
  else false
/-- the reference's words for it -/
def refMayM (m : Msg) : Bool :=
  if m.at_ < 0 ∨ 8 < m.props.length ∨ rightB m.props = false then false
  else if m.kind = 1 then decide (m.at_ = 0 ∧ m.props.length = 0)
  else if m.kind = 2 then true
  else if m.kind = 3 then decide (m.seq = 0 ∧ m.props.length = 0)
  else decide (m.kind = 4 ∧ m.seq = 0 ∧ m.at_ = 0 ∧ m.props.length = 0)
theorem mayM_eq (m : Msg) : refMayM m = mayM m := by
  obtain ⟨k, s, a, l⟩ := m
  unfold refMayM mayM
  simp only
  by_cases hl : l = []
  · subst hl
    simp only [right_nil, List.length_nil]
    by_cases ha : a < 0
    · have h0 : ¬ a = 0 := by omega
      have h1 : ¬ 0 ≤ a := by omega
      simp [ha, h0, h1]
    · have h1 : 0 ≤ a := by omega
      simp [ha, h1]
      repeat' split
      all_goals simp_all
  · have hn : ¬ l.length = 0 := fun e => hl (List.eq_nil_of_length_eq_zero e)
    cases hr : rightB l <;> by_cases ha : a < 0 <;> by_cases h8 : 8 < l.length <;> simp [hl, hn, ha, h8]
    all_goals (try omega)
    all_goals (repeat' split)
    all_goals (try simp_all)
    all_goals omega
end Go.Proofs.YtfphffkgacajdaaDoor
/- The contracts of package label: Name, order, Right; and the reference's. -/
namespace Go.Proofs.YtfphffkgacajdaaDoor
open Go.RowKit
set_option linter.unusedVariables false
set_option linter.unusedSimpArgs false
set_option maxHeartbeats 2000000
set_option maxRecDepth 20000
theorem ba_getP (bs : List UInt8) (i : Nat) (h : i < (⟨bs.toArray⟩ : ByteArray).size) : (⟨bs.toArray⟩ : ByteArray)[i]'h = bs.getD i 0 := by
  have h2 : i < bs.toArray.size := h
  have h' : i < bs.length := by simpa using h2
  show bs.toArray[i]'_ = _
  simp [List.getD, h']
theorem ba_sizeP (bs : List UInt8) : (⟨bs.toArray⟩ : ByteArray).size = bs.length := by show bs.toArray.size = _; simp
theorem ba_inj (a b : List UInt8) : ((⟨a.toArray⟩ : ByteArray) = ⟨b.toArray⟩) ↔ a = b := ⟨fun h => by have := congrArg (fun x => x.data.toList) h; simpa using this, fun h => by rw [h]⟩
theorem let_yes {s : List UInt8} {k x : Nat} (hx : (s.getD k 0).toNat = x) (h : (97 ≤ x ∧ x ≤ 122) ∨ (k ≠ 0 ∧ (x = 95 ∨ (48 ≤ x ∧ x ≤ 57)))) : letOk s k = true := by
  subst hx
  unfold letOk
  simp only [Bool.or_eq_true, Bool.and_eq_true, decide_eq_true_iff]
  exact h
theorem let_no {s : List UInt8} {k x : Nat} (hx : (s.getD k 0).toNat = x) (h : ¬ ((97 ≤ x ∧ x ≤ 122) ∨ (k ≠ 0 ∧ (x = 95 ∨ (48 ≤ x ∧ x ≤ 57))))) : letOk s k = false := by
  subst hx
  rw [Bool.eq_false_iff]
  intro e
  apply h
  unfold letOk at e
  simp only [Bool.or_eq_true, Bool.and_eq_true, decide_eq_true_iff] at e
  exact e
theorem name_any (s : List UInt8) (hs : s.length ≤ 1000000000) (w : World) :
    Calls Tryd.prog 85 #[.string ⟨s.toArray⟩] w fun e w' => e = .returned (.bool (nameB s)) ∧ w' = w := by
  have hz := ba_sizeP s
  by_cases h1 : s.length < 1
  · rw [name_out (by omega)]
    have h1' : (s.length : Int) < 1 := by omega
    go_enter Tryd.func85, Tryd.ntmps85
    go_wp2_with fail
    go_ret
    exact ⟨rfl, rfl⟩
  by_cases h2 : 12 < s.length
  · rw [name_out (by omega)]
    have h2' : (12 : Int) < (s.length : Int) := by omega
    have h1' : ¬ (s.length : Int) < 1 := by omega
    go_enter Tryd.func85, Tryd.ntmps85
    go_wp2_with fail
    go_ret
    exact ⟨rfl, rfl⟩
  have h2' : ¬ (12 : Int) < (s.length : Int) := by omega
  have h1' : ¬ (s.length : Int) < 1 := by omega
  by_cases h3 : s = sTrue
  · rw [name_out (fun h => h.2.2.1 h3)]
    have q1 : (s == [116, 114, 117, 101]) = true := by rw [h3]; rfl
    clear h3 h1 h2
    go_enter Tryd.func85, Tryd.ntmps85
    go_wp2_with fail
    go_ret
    exact ⟨rfl, rfl⟩
  have q1 : (s == [116, 114, 117, 101]) = false := by rw [beq_eq_false_iff_ne]; exact h3
  by_cases h4 : s = sFalse
  · rw [name_out (fun h => h.2.2.2 h4)]
    have q2 : (s == [102, 97, 108, 115, 101]) = true := by rw [h4]; rfl
    clear h4 h3 h1 h2
    go_enter Tryd.func85, Tryd.ntmps85
    go_wp2_with fail
    go_ret
    exact ⟨rfl, rfl⟩
  have q2 : (s == [102, 97, 108, 115, 101]) = false := by rw [beq_eq_false_iff_ne]; exact h4
  have H3 := Lib.hid h3
  have H4 := Lib.hid h4
  clear h3 h4
  go_enter Tryd.func85, Tryd.ntmps85
  go_wp2_with fail
  go_loop [23] (fun i => ∃ k : Nat, k ≤ s.length ∧ i = .int .i64 k ∧ ∀ j, j < k → letOk s j = true) (fun i => s.length - (intOf i).toNat)
  case atStart => exact ⟨0, Nat.zero_le _, rfl, fun j hj => by omega⟩
  case round =>
    obtain ⟨k, hk, rfl, hall⟩ := hrel
    have HALL := Lib.hid hall
    clear hall
    by_cases hlt : k < s.length
    · have hkz : k < (⟨s.toArray⟩ : ByteArray).size := by omega
      have ik := ba_getP s k hkz
      have hk0 : (0 : Int) ≤ (k : Int) := by omega
      have hk1 : (k : Int) < (s.length : Int) := by omega
      have hx := (s.getD k 0).toNat_lt
      generalize hc : s.getD k 0 = c at *
      have hcx : (s.getD k 0).toNat = c.toNat := by rw [hc]
      replace hcx := Lib.hid hcx
      clear hc
      go_wp2_with fail
      all_goals (try simp only [beq_iff_eq, beq_eq_false_iff_ne, bne_iff_ne, bne_eq_false_iff_eq, ne_eq, Bool.not_eq_true', Bool.not_eq_false', decide_eq_true_eq, decide_eq_false_iff_not] at *)
      all_goals first
        | (go_ret; exact ⟨by rw [name_no hlt (let_no hcx.out (by omega))]; rfl, rfl⟩)
        | (go_round; (case rel => exact ⟨k + 1, by omega, by go_num, fun j hj => by
            by_cases e : j = k
            · rw [e]; exact let_yes hcx.out (by omega)
            · exact HALL.out j (by omega)⟩); (case measure => simp [intOf] <;> omega))
    · obtain rfl : k = s.length := by omega
      go_wp2_with fail
      go_ret
      exact ⟨by rw [name_yes (by omega) (by omega) H3.out H4.out HALL.out]; rfl, rfl⟩
theorem rname_any (s : List UInt8) (hs : s.length ≤ 1000000000) (w : World) :
    Calls Tryd.prog 82 #[.string ⟨s.toArray⟩] w fun e w' => e = .returned (.bool (nameB s)) ∧ w' = w := by
  have hz := ba_sizeP s
  by_cases h1 : s.length < 1
  · rw [name_out (by omega)]
    have h1' : (s == []) = true := by rw [List.eq_nil_of_length_eq_zero (show s.length = 0 by omega)]; rfl
    have h1n : s = [] := List.eq_nil_of_length_eq_zero (by omega)
    subst h1n
    go_enter Tryd.func82, Tryd.ntmps82
    go_wp2_with fail
    go_ret
    exact ⟨rfl, rfl⟩
  have h1' : (s == []) = false := by rw [beq_eq_false_iff_ne]; intro e; rw [e] at h1; simp at h1
  have h1b : s.isEmpty = false := by cases s with | nil => simp at h1 | cons a l => rfl
  have h1c : s ≠ [] := by intro e; rw [e] at h1; simp at h1
  by_cases h2 : 12 < s.length
  · rw [name_out (by omega)]
    have h2' : (12 : Int) < (s.length : Int) := by omega
    go_enter Tryd.func82, Tryd.ntmps82
    go_wp2_with fail
    go_ret
    exact ⟨rfl, rfl⟩
  have h2' : ¬ (12 : Int) < (s.length : Int) := by omega
  by_cases h3 : s = sTrue
  · rw [name_out (fun h => h.2.2.1 h3)]
    have q1 : (s == [116, 114, 117, 101]) = true := by rw [h3]; rfl
    clear h3 h1 h2
    go_enter Tryd.func82, Tryd.ntmps82
    go_wp2_with fail
    go_ret
    exact ⟨rfl, rfl⟩
  have q1 : (s == [116, 114, 117, 101]) = false := by rw [beq_eq_false_iff_ne]; exact h3
  by_cases h4 : s = sFalse
  · rw [name_out (fun h => h.2.2.2 h4)]
    have q2 : (s == [102, 97, 108, 115, 101]) = true := by rw [h4]; rfl
    clear h4 h3 h1 h2
    go_enter Tryd.func82, Tryd.ntmps82
    go_wp2_with fail
    go_ret
    exact ⟨rfl, rfl⟩
  have q2 : (s == [102, 97, 108, 115, 101]) = false := by rw [beq_eq_false_iff_ne]; exact h4
  have H3 := Lib.hid h3
  have H4 := Lib.hid h4
  clear h3 h4
  go_enter Tryd.func82, Tryd.ntmps82
  go_wp2_with fail
  go_loop [3] (fun i => ∃ k : Nat, k ≤ s.length ∧ i = .int .i64 k ∧ ∀ j, j < k → letOk s j = true) (fun i => s.length - (intOf i).toNat)
  case atStart => exact ⟨0, Nat.zero_le _, rfl, fun j hj => by omega⟩
  case round =>
    obtain ⟨k, hk, rfl, hall⟩ := hrel
    have HALL := Lib.hid hall
    clear hall
    by_cases hlt : k < s.length
    · have hkz : k < (⟨s.toArray⟩ : ByteArray).size := by omega
      have ik := ba_getP s k hkz
      have hk0 : (0 : Int) ≤ (k : Int) := by omega
      have hk1 : (k : Int) < (s.length : Int) := by omega
      have hx := (s.getD k 0).toNat_lt
      generalize hc : s.getD k 0 = c at *
      have hcx : (s.getD k 0).toNat = c.toNat := by rw [hc]
      replace hcx := Lib.hid hcx
      clear hc
      go_wp2_with fail
      all_goals (try simp only [beq_iff_eq, beq_eq_false_iff_ne, bne_iff_ne, bne_eq_false_iff_eq, ne_eq, Bool.not_eq_true', Bool.not_eq_false', decide_eq_true_eq, decide_eq_false_iff_not] at *)
      all_goals first
        | (go_ret; exact ⟨by rw [name_no hlt (let_no hcx.out (by omega))]; rfl, rfl⟩)
        | (go_round; (case rel => exact ⟨k + 1, by omega, by go_num, fun j hj => by
            by_cases e : j = k
            · rw [e]; exact let_yes hcx.out (by omega)
            · exact HALL.out j (by omega)⟩); (case measure => simp [intOf] <;> omega))
    · obtain rfl : k = s.length := by omega
      go_wp2_with fail
      go_ret
      exact ⟨by rw [name_yes (by omega) (by omega) H3.out H4.out HALL.out]; rfl, rfl⟩
end Go.Proofs.YtfphffkgacajdaaDoor
/- label.order, cmp.Compare of int64, the reference's Ahead. -/
namespace Go.Proofs.YtfphffkgacajdaaDoor
open Go.RowKit
set_option linter.unusedVariables false
set_option linter.unusedSimpArgs false
set_option maxHeartbeats 2000000
set_option maxRecDepth 20000
def cmpI (x y : Int) : Int := if x < y then -1 else if y < x then 1 else 0
theorem nan_any (x : Int) (w : World) : Calls Tryd.prog 115 #[.int .i64 x] w fun e w' => e = .returned (.bool false) ∧ w' = w := by
  go_enter Tryd.func115, Tryd.ntmps115
  go_wp2_with fail
  go_ret
  exact ⟨by simp, rfl⟩
theorem cmp_any (x y : Int) (hx : -9223372036854775808 ≤ x ∧ x ≤ 9223372036854775807) (hy : -9223372036854775808 ≤ y ∧ y ≤ 9223372036854775807) (w : World) :
    Calls Tryd.prog 104 #[.int .i64 x, .int .i64 y] w fun e w' => e = .returned (.int .i64 (cmpI x y)) ∧ w' = w := by
  have hc : cmpI x y = if x < y then -1 else if y < x then 1 else 0 := rfl
  by_cases h1 : x < y
  · rw [if_pos h1] at hc
    rw [hc]
    clear hc
    go_enter Tryd.func104, Tryd.ntmps104
    go_wp2_with fail
    refine (nan_any x w).mono ?_; rintro e w' ⟨rfl, rfl⟩
    go_wp2_with fail
    refine (nan_any y w').mono ?_; rintro e w' ⟨rfl, rfl⟩
    go_wp2_with fail
    go_ret
    exact ⟨rfl, rfl⟩
  · rw [if_neg h1] at hc
    by_cases h2 : y < x
    · rw [if_pos h2] at hc
      rw [hc]
      clear hc
      go_enter Tryd.func104, Tryd.ntmps104
      go_wp2_with fail
      refine (nan_any x w).mono ?_; rintro e w' ⟨rfl, rfl⟩
      go_wp2_with fail
      refine (nan_any y w').mono ?_; rintro e w' ⟨rfl, rfl⟩
      go_wp2_with fail
      go_ret
      exact ⟨rfl, rfl⟩
    · rw [if_neg h2] at hc
      rw [hc]
      clear hc
      go_enter Tryd.func104, Tryd.ntmps104
      go_wp2_with fail
      refine (nan_any x w).mono ?_; rintro e w' ⟨rfl, rfl⟩
      go_wp2_with fail
      refine (nan_any y w').mono ?_; rintro e w' ⟨rfl, rfl⟩
      go_wp2_with fail
      go_ret
      exact ⟨rfl, rfl⟩
theorem cmpB (a b : List UInt8) : (Lib.compareBytes a b < 0 ↔ Op.bytesLess a b = true) ∧ (Lib.compareBytes a b = 0 ↔ a = b) := by
  induction a generalizing b with
  | nil => cases b with
    | nil => simp [Lib.compareBytes, Op.bytesLess]
    | cons y b => simp [Lib.compareBytes, Op.bytesLess]
  | cons x a ih => cases b with
    | nil => simp [Lib.compareBytes, Op.bytesLess]
    | cons y b =>
      have := ih b
      unfold Lib.compareBytes Op.bytesLess
      by_cases h1 : x < y
      · have : x ≠ y := fun e => by subst e; exact absurd h1 (UInt8.lt_irrefl _)
        simp [h1, this]
      · by_cases h2 : y < x
        · have h3 : x ≠ y := fun e => by subst e; exact absurd h2 (UInt8.lt_irrefl _)
          simp [h1, h2, h3]
        · have h3 : x = y := UInt8.le_antisymm (UInt8.not_lt.1 h2) (UInt8.not_lt.1 h1)
          subst h3
          simp [h1, this]
def ordI (a b : Pr) : Int := if Lib.compareBytes a.name b.name ≠ 0 then Lib.compareBytes a.name b.name else cmpI a.value b.value
theorem ordI_neg (a b : Pr) : decide (0 ≤ ordI a b) = !aheadB a b := by
  obtain ⟨h1, h2⟩ := cmpB a.name b.name
  unfold ordI aheadB
  by_cases he : a.name = b.name
  · have h0 := h2.2 he
    have hb : Op.bytesLess a.name b.name = false := by
      rw [Bool.eq_false_iff]; intro e; have := h1.2 e; omega
    rw [hb, he]
    rw [he] at h0
    simp only [h0, ne_eq, not_true_eq_false, if_false, Bool.false_or, beq_self_eq_true, Bool.true_and]
    unfold cmpI
    by_cases hv : a.value < b.value
    · simp [hv]
    · by_cases hw : b.value < a.value <;> simp [hv, hw]
  · have h0 : Lib.compareBytes a.name b.name ≠ 0 := fun e => he (h2.1 e)
    have hq : (a.name == b.name) = false := by rw [beq_eq_false_iff_ne]; exact he
    rw [if_pos h0, hq, Bool.false_and, Bool.or_false]
    cases hb : Op.bytesLess a.name b.name with
    | true => have := h1.2 hb; simp; omega
    | false =>
      have : ¬ Lib.compareBytes a.name b.name < 0 := fun e => by rw [h1.1 e] at hb; cases hb
      simp; omega
def prA (p : Pr) : Value := .agg #[.string ⟨p.name.toArray⟩, .int .i64 p.value]
theorem order_any (a b : Pr) (ha : a.ok) (hb : b.ok) (w : World) :
    Calls Tryd.prog 86 #[prA a, prA b] w fun e w' => e = .returned (.int .i64 (ordI a b)) ∧ Below w.heap.size w w' := by
  obtain ⟨an, av⟩ := a
  obtain ⟨bn, bv⟩ := b
  unfold ordI prA
  simp only
  have hv := ha.value
  have hv2 := hb.value
  simp only at hv hv2
  have HS := fun W => Tryd.strings_Compare ⟨an.toArray⟩ ⟨bn.toArray⟩ W
  simp only [List.toList_toArray] at HS
  generalize Lib.compareBytes an bn = c at HS ⊢
  have HC := fun W => cmp_any av bv hv hv2 W
  generalize cmpI av bv = d at HC ⊢
  by_cases hc : c = 0
  · subst hc
    simp only [ne_eq, not_true_eq_false, if_false]
    go_enter Tryd.func86, Tryd.ntmps86
    go_wp2_with fail
    refine (HS _).mono ?_; rintro e w' ⟨rfl, rfl⟩
    go_wp2_with fail
    refine (HC _).mono ?_; rintro e w' ⟨rfl, rfl⟩
    go_wp2_with fail
    go_ret
    exact ⟨rfl, (by repeat (first | with_reducible exact Below.refl _ _ | with_reducible refine Below.drew ?_ | with_reducible refine Below.alloc ?_ (by (try simp) <;> omega) _ | with_reducible refine Below.setCell ?_ (by (try simp) <;> omega) _))⟩
  · rw [if_pos hc]
    go_enter Tryd.func86, Tryd.ntmps86
    go_wp2_with fail
    refine (HS _).mono ?_; rintro e w' ⟨rfl, rfl⟩
    go_wp2_with fail
    go_ret
    exact ⟨rfl, (by repeat (first | with_reducible exact Below.refl _ _ | with_reducible refine Below.drew ?_ | with_reducible refine Below.alloc ?_ (by (try simp) <;> omega) _ | with_reducible refine Below.setCell ?_ (by (try simp) <;> omega) _))⟩
theorem less_irrefl (a : List UInt8) : Op.bytesLess a a = false := by
  induction a with
  | nil => rfl
  | cons x a ih => simp [Op.bytesLess, ih]
theorem ahead_any (a b : Pr) (w : World) :
    Calls Tryd.prog 83 #[prA a, prA b] w fun e w' => e = .returned (.bool (aheadB a b)) ∧ Below w.heap.size w w' := by
  obtain ⟨an, av⟩ := a
  obtain ⟨bn, bv⟩ := b
  unfold aheadB prA
  simp only
  go_enter Tryd.func83, Tryd.ntmps83
  go_wp2_with fail
  all_goals (go_ret; exact ⟨by simp [*, less_irrefl], (by repeat (first | with_reducible exact Below.refl _ _ | with_reducible refine Below.drew ?_ | with_reducible refine Below.alloc ?_ (by (try simp) <;> omega) _ | with_reducible refine Below.setCell ?_ (by (try simp) <;> omega) _))⟩)
end Go.Proofs.YtfphffkgacajdaaDoor
/- label.Right and the reference's. -/
namespace Go.Proofs.YtfphffkgacajdaaDoor
open Go.RowKit
set_option linter.unusedVariables false
set_option linter.unusedSimpArgs false
set_option maxHeartbeats 4000000
set_option maxRecDepth 20000
/-- a slice of propositions -/
def RowQ (w : World) (q : Option Addr) (n : Nat) (ps : List Pr) : Prop := RowG 2 w q n (ps.map prV)
theorem RowQ.length {w : World} {q : Option Addr} {n : Nat} {ps : List Pr} (h : RowQ w q n ps) : ps.length = n := by have := RowG.length h; simpa using this
theorem RowQ.at_ {w : World} {q : Option Addr} {n : Nat} {ps : List Pr} (h : RowQ w q n ps) (h0 : 0 < n) : ∃ b off, q = some ⟨b, off, none⟩ ∧ b < w.heap.size ∧ ∀ i, i < n → w.cell? ⟨b, off + i * 2, none⟩ = some (.string ⟨(ps.getD i prD).name.toArray⟩) ∧ w.cell? ⟨b, off + i * 2 + 1, none⟩ = some (.int .i64 (ps.getD i prD).value) := by
  have hl := h.length
  obtain ⟨b, off, rfl, hb, hc⟩ := RowG.get h h0
  refine ⟨b, off, rfl, hb, fun i hi => ?_⟩
  have e : (ps.map prV).getD i [] = prV (ps.getD i prD) := by
    have : i < ps.length := by omega
    simp [List.getD, this]
  have := hc i hi
  rw [e] at this
  exact ⟨this 0 _ rfl, this 1 _ rfl⟩
def okPs (ps : List Pr) : Prop := ∀ i, (ps.getD i prD).ok
theorem name_no1 {ps : List Pr} {k : Nat} (hk : k < ps.length) (h : rightAt ps k = false) : rightB ps = false := right_no hk h
theorem right_any (q : Option Addr) (n c : Nat) (ps : List Pr) (w : World) (hR : RowQ w q n ps) (hok : okPs ps) (hnm : ∀ i, (ps.getD i prD).name.length ≤ 1000000000) :
    Calls Tryd.prog 46 #[.slice q n c] w fun e w' => e = .returned (.bool (rightB ps)) ∧ Below w.heap.size w w' := by
  have LL := Lib.hid hR.length
  have hsm := RowG.small hR
  unfold maxLen at hsm
  go_enter Tryd.func46, Tryd.ntmps46
  go_wp2_with fail
  go_loopw [7] (fun i wr => ∃ k : Nat, k ≤ n ∧ i = .int .i64 k ∧ (∀ j, j < k → rightAt ps j = true) ∧ Below w.heap.size w wr) (fun i wr => n - (intOf i).toNat)
  case atStart => exact ⟨0, Nat.zero_le _, rfl, fun j hj => by omega, Below.refl _ _⟩
  case round =>
    obtain ⟨k, hk, rfl, hall, hB⟩ := hrel
    have HALL := Lib.hid hall
    clear hall
    by_cases hlt : k < n
    · obtain ⟨b, off, rfl, hb, hc⟩ := hR.at_ (by omega)
      have hk0 : (0 : Int) ≤ (k : Int) := by omega
      have hk1 : (k : Int) < (n : Int) := by omega
      have hkp : k < ps.length := by have := LL.out; omega
      have c0 := (hB.cell (p := ⟨b, off + k * 2, none⟩) hb).trans (hc k hlt).1
      have c1 := (hB.cell (p := ⟨b, off + k * 2 + 1, none⟩) hb).trans (hc k hlt).2
      have hAT : rightAt ps k = (nameB (ps.getD k prD).name && (decide (k = 0) || aheadB (ps.getD (k - 1) prD) (ps.getD k prD))) := rfl
      have hpk := hok k
      have HNM := name_any (ps.getD k prD).name (hnm k)
      obtain ⟨W1, eW1⟩ : ∃ W, wr.alloc (.cells #[.string ⟨(ps.getD k prD).name.toArray⟩, .int .i64 (ps.getD k prD).value] 80) = W := ⟨_, rfl⟩
      have B1 : Below wr.heap.size wr W1 := by rw [← eW1]; exact (Below.refl _ _).alloc (Nat.le_refl _) _
      have hB1 := hB.trans (B1.mono hB.size)
      have z1 : W1.heap.size = wr.heap.size + 1 := by rw [← eW1]; simp
      have d0 : W1.cell? ⟨wr.heap.size, 0, none⟩ = some (.string ⟨(ps.getD k prD).name.toArray⟩) := by rw [← eW1]; simp [go_sem]
      have d1 : W1.cell? ⟨wr.heap.size, 1, none⟩ = some (.int .i64 (ps.getD k prD).value) := by rw [← eW1]; simp [go_sem]
      have zB := hB.size
      have HD : Below W1.heap.size W1 W1.drew := (Below.refl _ _).drew
      cases hnb : nameB (ps.getD k prD).name with
      | false =>
        have hAT' : rightAt ps k = false := by rw [hAT, hnb]; rfl
        rw [hnb] at HNM
        clear hnb hAT
        generalize ps.getD k prD = p at *
        replace HNM := Lib.hid HNM
        obtain ⟨pn, pv⟩ := p
        simp only at *
        clear hc hR
        have E : ∀ W, Below W1.heap.size W1 W → W.cell? ⟨wr.heap.size, 0, none⟩ = some (.string ⟨pn.toArray⟩) := fun W hW => (hW.cell (p := ⟨wr.heap.size, 0, none⟩) (by simp; omega)).trans d0
        replace E := Lib.hid E
        go_wp2_with fail
        refine wp_region_noPanic ?_
        refine wp_region_held_drew (S := fun W => W.cell? ⟨wr.heap.size, 0, none⟩ = some (.string ⟨pn.toArray⟩)) (by kernel_rfl) (E.out _ HD) (fun hHeld => ?_)
        refine wpAnyH_take (i := 0) (oi := ⟨some 12, _, _, _, _, _⟩) (v := ?_) rfl (by kernel_rfl) (by kernel_rfl) (by kernel_rfl) (fun _ _ _ h => h) (Or.inl ⟨by rfl, ?hyt0⟩) (by assumption) ?_; (case hyt0 => ((intro W hSW; (try dsimp only at hSW); go_simp); (all_goals with_reducible rfl))); (try simp only [Act.put, List.setIfInBounds_toArray, List.set_cons_zero, List.set_cons_succ])
        refine wpAnyH_take (i := 1) (oi := ⟨some 13, _, _, _, _, _⟩) (v := ?_) rfl (by kernel_rfl) (by kernel_rfl) (by kernel_rfl) (fun _ _ _ h => h) (Or.inl ⟨by rfl, ?hyt1⟩) (by assumption) ?_; (case hyt1 => ((intro W hSW; (try dsimp only at hSW); go_simp); (all_goals with_reducible rfl))); (try simp only [Act.put, List.setIfInBounds_toArray, List.set_cons_zero, List.set_cons_succ])
        refine wpAnyH_ready (rs := [2]) (by kernel_rfl) (by simp) ?_; refine AllReadyH.cons (o := ⟨some 14, _, _, _, _, _⟩) rfl (fun K hK => ?_) AllReadyH.nil; go_simp
        go_at_call 85
        refine (HNM.out W1.drew).mono ?_; rintro e w3 ⟨rfl, rfl⟩
        (try go_simp)
        refine hK.out _ _ (E.out _ HD) (fun hHeld2 => ?_)
        clear hK K hHeld
        (try simp only [Act.put, List.setIfInBounds_toArray, List.set_cons_zero, List.set_cons_succ])
        refine wpAnyH_take (i := 3) (oi := ⟨some 15, _, _, _, _, _⟩) (v := ?_) rfl (by kernel_rfl) (by kernel_rfl) (by kernel_rfl) (fun _ _ _ h => h) (Or.inl ⟨by rfl, ?hyt3⟩) (by assumption) ?_; (case hyt3 => ((intro W hSW; (try dsimp only at hSW); go_simp); (all_goals with_reducible rfl))); (try simp only [Act.put, List.setIfInBounds_toArray, List.set_cons_zero, List.set_cons_succ])
        refine wpAnyH_take (i := 4) (oi := ⟨some 16, _, _, _, _, _⟩) (v := ?_) rfl (by kernel_rfl) (by kernel_rfl) (by kernel_rfl) (fun _ _ _ h => h) (Or.inl ⟨by rfl, ?hyt4⟩) (by assumption) ?_; (case hyt4 => ((intro W hSW; (try dsimp only at hSW); go_simp); (all_goals with_reducible rfl))); (try simp only [Act.put, List.setIfInBounds_toArray, List.set_cons_zero, List.set_cons_succ])
        refine wpAnyH_take (i := 5) (oi := ⟨some 17, _, _, _, _, _⟩) (v := undef) rfl (by kernel_rfl) (by kernel_rfl) (by kernel_rfl) (fun _ _ _ h => h) (Or.inr ⟨by rfl, rfl⟩) (by assumption) ?_; (try simp only [Act.put, List.setIfInBounds_toArray, List.set_cons_zero, List.set_cons_succ])
        refine wpAnyH_take (i := 6) (oi := ⟨some 18, _, _, _, _, _⟩) (v := undef) rfl (by kernel_rfl) (by kernel_rfl) (by kernel_rfl) (fun _ _ _ h => h) (Or.inr ⟨by rfl, rfl⟩) (by assumption) ?_; (try simp only [Act.put, List.setIfInBounds_toArray, List.set_cons_zero, List.set_cons_succ])
        refine wpAnyH_take (i := 7) (oi := ⟨some 19, _, _, _, _, _⟩) (v := undef) rfl (by kernel_rfl) (by kernel_rfl) (by kernel_rfl) (fun _ _ _ h => h) (Or.inr ⟨by rfl, rfl⟩) (by assumption) ?_; (try simp only [Act.put, List.setIfInBounds_toArray, List.set_cons_zero, List.set_cons_succ])
        refine wpAnyH_take (i := 8) (oi := ⟨some 20, _, _, _, _, _⟩) (v := undef) rfl (by kernel_rfl) (by kernel_rfl) (by kernel_rfl) (fun _ _ _ h => h) (Or.inr ⟨by rfl, rfl⟩) (by assumption) ?_; (try simp only [Act.put, List.setIfInBounds_toArray, List.set_cons_zero, List.set_cons_succ])
        refine wpAnyH_take (i := 9) (oi := ⟨some 21, _, _, _, _, _⟩) (v := undef) rfl (by kernel_rfl) (by kernel_rfl) (by kernel_rfl) (fun _ _ _ h => h) (Or.inr ⟨by rfl, rfl⟩) (by assumption) ?_; (try simp only [Act.put, List.setIfInBounds_toArray, List.set_cons_zero, List.set_cons_succ])
        refine wpAnyH_take (i := 10) (oi := ⟨some 22, _, _, _, _, _⟩) (v := undef) rfl (by kernel_rfl) (by kernel_rfl) (by kernel_rfl) (fun _ _ _ h => h) (Or.inr ⟨by rfl, rfl⟩) (by assumption) ?_; (try simp only [Act.put, List.setIfInBounds_toArray, List.set_cons_zero, List.set_cons_succ])
        refine wpAnyH_take (i := 11) (oi := ⟨some 23, _, _, _, _, _⟩) (v := undef) rfl (by kernel_rfl) (by kernel_rfl) (by kernel_rfl) (fun _ _ _ h => h) (Or.inr ⟨by rfl, rfl⟩) (by assumption) ?_; (try simp only [Act.put, List.setIfInBounds_toArray, List.set_cons_zero, List.set_cons_succ])
        refine wpAnyH_take (i := 12) (oi := ⟨some 24, _, _, _, _, _⟩) (v := undef) rfl (by kernel_rfl) (by kernel_rfl) (by kernel_rfl) (fun _ _ _ h => h) (Or.inr ⟨by rfl, rfl⟩) (by assumption) ?_; (try simp only [Act.put, List.setIfInBounds_toArray, List.set_cons_zero, List.set_cons_succ])
        refine wpAnyH_take (i := 13) (oi := ⟨some 25, _, _, _, _, _⟩) (v := undef) rfl (by kernel_rfl) (by kernel_rfl) (by kernel_rfl) (fun _ _ _ h => h) (Or.inr ⟨by rfl, rfl⟩) (by assumption) ?_; (try simp only [Act.put, List.setIfInBounds_toArray, List.set_cons_zero, List.set_cons_succ])
        refine wpAnyH_take (i := 14) (oi := ⟨some 26, _, _, _, _, _⟩) (v := undef) rfl (by kernel_rfl) (by kernel_rfl) (by kernel_rfl) (fun _ _ _ h => h) (Or.inr ⟨by rfl, rfl⟩) (by assumption) ?_; (try simp only [Act.put, List.setIfInBounds_toArray, List.set_cons_zero, List.set_cons_succ])
        refine wpAnyH_take (i := 15) (oi := ⟨some 27, _, _, _, _, _⟩) (v := undef) rfl (by kernel_rfl) (by kernel_rfl) (by kernel_rfl) (fun _ _ _ h => h) (Or.inr ⟨by rfl, rfl⟩) (by assumption) ?_; (try simp only [Act.put, List.setIfInBounds_toArray, List.set_cons_zero, List.set_cons_succ])
        refine wpAnyH_take (i := 16) (oi := ⟨some 28, _, _, _, _, _⟩) (v := undef) rfl (by kernel_rfl) (by kernel_rfl) (by kernel_rfl) (fun _ _ _ h => h) (Or.inr ⟨by rfl, rfl⟩) (by assumption) ?_; (try simp only [Act.put, List.setIfInBounds_toArray, List.set_cons_zero, List.set_cons_succ])
        refine wpAnyH_take (i := 17) (oi := ⟨some 29, _, _, _, _, _⟩) (v := ?_) rfl (by kernel_rfl) (by kernel_rfl) (by kernel_rfl) (fun _ _ _ h => h) (Or.inl ⟨by rfl, ?hyt17⟩) (by assumption) ?_; (case hyt17 => ((intro W hSW; (try dsimp only at hSW); go_simp); (all_goals with_reducible rfl))); (try simp only [Act.put, List.setIfInBounds_toArray, List.set_cons_zero, List.set_cons_succ])
        refine wpAnyH_done (by kernel_rfl) ?_ _
        refine NoPanic.normal ?_
        clear hHeld2
        go_wp2_with fail
        all_goals (go_ret; exact ⟨by rw [name_no1 hkp hAT']; rfl, hB1.drew⟩)
      | true =>
        rw [hnb] at hAT HNM
        rw [Bool.true_and] at hAT
        clear hnb
        by_cases h0 : k = 0
        · subst h0
          have hAT' : rightAt ps 0 = true := by rw [hAT]; rfl
          clear hAT
          replace hAT' := Lib.hid hAT'
          generalize ps.getD 0 prD = p at *
          replace HNM := Lib.hid HNM
          obtain ⟨pn, pv⟩ := p
          simp only at *
          simp only [Nat.zero_mul, Nat.add_zero] at c0 c1
          clear hc hR
          have E : ∀ W, Below W1.heap.size W1 W → W.cell? ⟨wr.heap.size, 0, none⟩ = some (.string ⟨pn.toArray⟩) := fun W hW => (hW.cell (p := ⟨wr.heap.size, 0, none⟩) (by simp; omega)).trans d0
          replace E := Lib.hid E
          go_wp2_with fail
          refine wp_region_noPanic ?_
          refine wp_region_held_drew (S := fun W => W.cell? ⟨wr.heap.size, 0, none⟩ = some (.string ⟨pn.toArray⟩)) (by kernel_rfl) (E.out _ HD) (fun hHeld => ?_)
          refine wpAnyH_take (i := 0) (oi := ⟨some 12, _, _, _, _, _⟩) (v := ?_) rfl (by kernel_rfl) (by kernel_rfl) (by kernel_rfl) (fun _ _ _ h => h) (Or.inl ⟨by rfl, ?hyt0⟩) (by assumption) ?_; (case hyt0 => ((intro W hSW; (try dsimp only at hSW); go_simp); (all_goals with_reducible rfl))); (try simp only [Act.put, List.setIfInBounds_toArray, List.set_cons_zero, List.set_cons_succ])
          refine wpAnyH_take (i := 1) (oi := ⟨some 13, _, _, _, _, _⟩) (v := ?_) rfl (by kernel_rfl) (by kernel_rfl) (by kernel_rfl) (fun _ _ _ h => h) (Or.inl ⟨by rfl, ?hyt1⟩) (by assumption) ?_; (case hyt1 => ((intro W hSW; (try dsimp only at hSW); go_simp); (all_goals with_reducible rfl))); (try simp only [Act.put, List.setIfInBounds_toArray, List.set_cons_zero, List.set_cons_succ])
          refine wpAnyH_ready (rs := [2]) (by kernel_rfl) (by simp) ?_; refine AllReadyH.cons (o := ⟨some 14, _, _, _, _, _⟩) rfl (fun K hK => ?_) AllReadyH.nil; go_simp
          go_at_call 85
          refine (HNM.out W1.drew).mono ?_; rintro e w3 ⟨rfl, rfl⟩
          (try go_simp)
          refine hK.out _ _ (E.out _ HD) (fun hHeld2 => ?_)
          clear hK K hHeld
          (try simp only [Act.put, List.setIfInBounds_toArray, List.set_cons_zero, List.set_cons_succ])
          refine wpAnyH_take (i := 3) (oi := ⟨some 15, _, _, _, _, _⟩) (v := ?_) rfl (by kernel_rfl) (by kernel_rfl) (by kernel_rfl) (fun _ _ _ h => h) (Or.inl ⟨by rfl, ?hyt3⟩) (by assumption) ?_; (case hyt3 => ((intro W hSW; (try dsimp only at hSW); go_simp); (all_goals with_reducible rfl))); (try simp only [Act.put, List.setIfInBounds_toArray, List.set_cons_zero, List.set_cons_succ])
          refine wpAnyH_take (i := 4) (oi := ⟨some 16, _, _, _, _, _⟩) (v := ?_) rfl (by kernel_rfl) (by kernel_rfl) (by kernel_rfl) (fun _ _ _ h => h) (Or.inl ⟨by rfl, ?hyt4⟩) (by assumption) ?_; (case hyt4 => ((intro W hSW; (try dsimp only at hSW); go_simp); (all_goals with_reducible rfl))); (try simp only [Act.put, List.setIfInBounds_toArray, List.set_cons_zero, List.set_cons_succ])
          refine wpAnyH_take (i := 5) (oi := ⟨some 17, _, _, _, _, _⟩) (v := ?_) rfl (by kernel_rfl) (by kernel_rfl) (by kernel_rfl) (fun _ _ _ h => h) (Or.inl ⟨by rfl, ?hyt5⟩) (by assumption) ?_; (case hyt5 => ((intro W hSW; (try dsimp only at hSW); go_simp); (all_goals with_reducible rfl))); (try simp only [Act.put, List.setIfInBounds_toArray, List.set_cons_zero, List.set_cons_succ])
          refine wpAnyH_take (i := 6) (oi := ⟨some 18, _, _, _, _, _⟩) (v := ?_) rfl (by kernel_rfl) (by kernel_rfl) (by kernel_rfl) (fun _ _ _ h => h) (Or.inl ⟨by rfl, ?hyt6⟩) (by assumption) ?_; (case hyt6 => ((intro W hSW; (try dsimp only at hSW); go_simp); (all_goals with_reducible rfl))); (try simp only [Act.put, List.setIfInBounds_toArray, List.set_cons_zero, List.set_cons_succ])
          refine wpAnyH_take (i := 7) (oi := ⟨some 19, _, _, _, _, _⟩) (v := ?_) rfl (by kernel_rfl) (by kernel_rfl) (by kernel_rfl) (fun _ _ _ h => h) (Or.inl ⟨by rfl, ?hyt7⟩) (by assumption) ?_; (case hyt7 => ((intro W hSW; (try dsimp only at hSW); go_simp); (all_goals with_reducible rfl))); (try simp only [Act.put, List.setIfInBounds_toArray, List.set_cons_zero, List.set_cons_succ])
          refine wpAnyH_take (i := 8) (oi := ⟨some 20, _, _, _, _, _⟩) (v := undef) rfl (by kernel_rfl) (by kernel_rfl) (by kernel_rfl) (fun _ _ _ h => h) (Or.inr ⟨by rfl, rfl⟩) (by assumption) ?_; (try simp only [Act.put, List.setIfInBounds_toArray, List.set_cons_zero, List.set_cons_succ])
          refine wpAnyH_take (i := 9) (oi := ⟨some 21, _, _, _, _, _⟩) (v := undef) rfl (by kernel_rfl) (by kernel_rfl) (by kernel_rfl) (fun _ _ _ h => h) (Or.inr ⟨by rfl, rfl⟩) (by assumption) ?_; (try simp only [Act.put, List.setIfInBounds_toArray, List.set_cons_zero, List.set_cons_succ])
          refine wpAnyH_take (i := 10) (oi := ⟨some 22, _, _, _, _, _⟩) (v := undef) rfl (by kernel_rfl) (by kernel_rfl) (by kernel_rfl) (fun _ _ _ h => h) (Or.inr ⟨by rfl, rfl⟩) (by assumption) ?_; (try simp only [Act.put, List.setIfInBounds_toArray, List.set_cons_zero, List.set_cons_succ])
          refine wpAnyH_take (i := 11) (oi := ⟨some 23, _, _, _, _, _⟩) (v := undef) rfl (by kernel_rfl) (by kernel_rfl) (by kernel_rfl) (fun _ _ _ h => h) (Or.inr ⟨by rfl, rfl⟩) (by assumption) ?_; (try simp only [Act.put, List.setIfInBounds_toArray, List.set_cons_zero, List.set_cons_succ])
          refine wpAnyH_take (i := 12) (oi := ⟨some 24, _, _, _, _, _⟩) (v := undef) rfl (by kernel_rfl) (by kernel_rfl) (by kernel_rfl) (fun _ _ _ h => h) (Or.inr ⟨by rfl, rfl⟩) (by assumption) ?_; (try simp only [Act.put, List.setIfInBounds_toArray, List.set_cons_zero, List.set_cons_succ])
          refine wpAnyH_take (i := 13) (oi := ⟨some 25, _, _, _, _, _⟩) (v := undef) rfl (by kernel_rfl) (by kernel_rfl) (by kernel_rfl) (fun _ _ _ h => h) (Or.inr ⟨by rfl, rfl⟩) (by assumption) ?_; (try simp only [Act.put, List.setIfInBounds_toArray, List.set_cons_zero, List.set_cons_succ])
          refine wpAnyH_take (i := 14) (oi := ⟨some 26, _, _, _, _, _⟩) (v := undef) rfl (by kernel_rfl) (by kernel_rfl) (by kernel_rfl) (fun _ _ _ h => h) (Or.inr ⟨by rfl, rfl⟩) (by assumption) ?_; (try simp only [Act.put, List.setIfInBounds_toArray, List.set_cons_zero, List.set_cons_succ])
          refine wpAnyH_take (i := 15) (oi := ⟨some 27, _, _, _, _, _⟩) (v := undef) rfl (by kernel_rfl) (by kernel_rfl) (by kernel_rfl) (fun _ _ _ h => h) (Or.inr ⟨by rfl, rfl⟩) (by assumption) ?_; (try simp only [Act.put, List.setIfInBounds_toArray, List.set_cons_zero, List.set_cons_succ])
          refine wpAnyH_take (i := 16) (oi := ⟨some 28, _, _, _, _, _⟩) (v := ?_) rfl (by kernel_rfl) (by kernel_rfl) (by kernel_rfl) (fun _ _ _ h => h) (Or.inl ⟨by rfl, ?hyt16⟩) (by assumption) ?_; (case hyt16 => ((intro W hSW; (try dsimp only at hSW); go_simp); (all_goals with_reducible rfl))); (try simp only [Act.put, List.setIfInBounds_toArray, List.set_cons_zero, List.set_cons_succ])
          refine wpAnyH_take (i := 17) (oi := ⟨some 29, _, _, _, _, _⟩) (v := ?_) rfl (by kernel_rfl) (by kernel_rfl) (by kernel_rfl) (fun _ _ _ h => h) (Or.inl ⟨by rfl, ?hyt17⟩) (by assumption) ?_; (case hyt17 => ((intro W hSW; (try dsimp only at hSW); go_simp); (all_goals with_reducible rfl))); (try simp only [Act.put, List.setIfInBounds_toArray, List.set_cons_zero, List.set_cons_succ])
          refine wpAnyH_done (by kernel_rfl) ?_ _
          refine NoPanic.normal ?_
          clear hHeld2
          go_wp2_with fail
          all_goals
            go_roundw
            case rel => exact ⟨1, by omega, by go_num, fun j hj => (by (obtain rfl : j = 0 := by omega); exact hAT'.out), hB1.drew⟩
            case measure => simp [intOf] <;> omega
        · obtain ⟨m, rfl⟩ : ∃ m, k = m + 1 := ⟨k - 1, by omega⟩
          have hAT' : rightAt ps (m + 1) = aheadB (ps.getD m prD) (ps.getD (m + 1) prD) := by rw [hAT]; simp
          clear hAT
          have p0 := (hB1.cell (p := ⟨b, off + m * 2, none⟩) hb).trans (hc m (by omega)).1
          have p1 := (hB1.cell (p := ⟨b, off + m * 2 + 1, none⟩) hb).trans (hc m (by omega)).2
          have HOR := order_any (ps.getD m prD) (ps.getD (m + 1) prD) (hok m) hpk
          have hneg := ordI_neg (ps.getD m prD) (ps.getD (m + 1) prD)
          rw [← Bool.not_inj_iff, Bool.not_not] at hneg
          rw [← hneg] at hAT'
          clear hneg
          generalize ps.getD (m + 1) prD = p at *
          generalize ps.getD m prD = p' at *
          generalize ordI p' p = o at *
          unfold prA at HOR
          obtain ⟨pn, pv⟩ := p
          obtain ⟨pn', pv'⟩ := p'
          simp only at *
          replace HNM := Lib.hid HNM
          replace HOR := Lib.hid HOR
          replace hAT' := Lib.hid hAT'
          have hbl : b < W1.heap.size := Nat.lt_of_lt_of_le hb hB1.size
          clear hc hR
          have E : ∀ W, Below W1.heap.size W1 W → W.cell? ⟨wr.heap.size, 0, none⟩ = some (.string ⟨pn.toArray⟩) ∧ W.cell? ⟨wr.heap.size, 1, none⟩ = some (.int .i64 pv) ∧ W.cell? ⟨b, off + m * 2, none⟩ = some (.string ⟨pn'.toArray⟩) ∧ W.cell? ⟨b, off + m * 2 + 1, none⟩ = some (.int .i64 pv') := fun W hW =>
            ⟨(hW.cell (p := ⟨wr.heap.size, 0, none⟩) (by simp; omega)).trans d0, (hW.cell (p := ⟨wr.heap.size, 1, none⟩) (by simp; omega)).trans d1, (hW.cell (p := ⟨b, off + m * 2, none⟩) hbl).trans p0, (hW.cell (p := ⟨b, off + m * 2 + 1, none⟩) hbl).trans p1⟩
          replace E := Lib.hid E
          have hm1 : IntKind.i64.wrap (m : Int) = (m : Int) := IntWalk.i64_in _ (by omega)
          have hm0 : (0 : Int) ≤ (m : Int) := by omega
          have hmn : (m : Int) < (n : Int) := by omega
          have hmp : (0 : Int) < (m : Int) + 1 := by omega
          go_wp2_with fail
          refine wp_region_noPanic ?_
          refine wp_region_held_drew (S := (fun W => W.cell? ⟨wr.heap.size, 0, none⟩ = some (.string ⟨pn.toArray⟩) ∧ W.cell? ⟨wr.heap.size, 1, none⟩ = some (.int .i64 pv) ∧ W.cell? ⟨b, off + m * 2, none⟩ = some (.string ⟨pn'.toArray⟩) ∧ W.cell? ⟨b, off + m * 2 + 1, none⟩ = some (.int .i64 pv'))) (by kernel_rfl) (E.out _ HD) (fun hHeld => ?_)
          refine wpAnyH_take (i := 0) (oi := ⟨some 12, _, _, _, _, _⟩) (v := ?_) rfl (by kernel_rfl) (by kernel_rfl) (by kernel_rfl) (fun _ _ _ h => h) (Or.inl ⟨by rfl, ?hyt0⟩) (by assumption) ?_; (case hyt0 => ((intro W hSW; (try dsimp only at hSW); obtain ⟨s1, s2, s3, s4⟩ := hSW; go_simp); (all_goals with_reducible rfl))); (try simp only [Act.put, List.setIfInBounds_toArray, List.set_cons_zero, List.set_cons_succ])
          refine wpAnyH_take (i := 1) (oi := ⟨some 13, _, _, _, _, _⟩) (v := ?_) rfl (by kernel_rfl) (by kernel_rfl) (by kernel_rfl) (fun _ _ _ h => h) (Or.inl ⟨by rfl, ?hyt1⟩) (by assumption) ?_; (case hyt1 => ((intro W hSW; (try dsimp only at hSW); obtain ⟨s1, s2, s3, s4⟩ := hSW; go_simp); (all_goals with_reducible rfl))); (try simp only [Act.put, List.setIfInBounds_toArray, List.set_cons_zero, List.set_cons_succ])
          refine wpAnyH_ready (rs := [2]) (by kernel_rfl) (by simp) ?_; refine AllReadyH.cons (o := ⟨some 14, _, _, _, _, _⟩) rfl (fun K hK => ?_) AllReadyH.nil; go_simp
          go_at_call 85
          refine (HNM.out W1.drew).mono ?_; rintro e w3 ⟨rfl, rfl⟩
          (try go_simp)
          refine hK.out _ _ (E.out _ HD) (fun hHeld2 => ?_)
          clear hK K hHeld
          (try simp only [Act.put, List.setIfInBounds_toArray, List.set_cons_zero, List.set_cons_succ])
          refine wpAnyH_take (i := 3) (oi := ⟨some 15, _, _, _, _, _⟩) (v := ?_) rfl (by kernel_rfl) (by kernel_rfl) (by kernel_rfl) (fun _ _ _ h => h) (Or.inl ⟨by rfl, ?hyt3⟩) (by assumption) ?_; (case hyt3 => ((intro W hSW; (try dsimp only at hSW); obtain ⟨s1, s2, s3, s4⟩ := hSW; go_simp); (all_goals with_reducible rfl))); (try simp only [Act.put, List.setIfInBounds_toArray, List.set_cons_zero, List.set_cons_succ])
          refine wpAnyH_take (i := 4) (oi := ⟨some 16, _, _, _, _, _⟩) (v := ?_) rfl (by kernel_rfl) (by kernel_rfl) (by kernel_rfl) (fun _ _ _ h => h) (Or.inl ⟨by rfl, ?hyt4⟩) (by assumption) ?_; (case hyt4 => ((intro W hSW; (try dsimp only at hSW); obtain ⟨s1, s2, s3, s4⟩ := hSW; go_simp); (all_goals with_reducible rfl))); (try simp only [Act.put, List.setIfInBounds_toArray, List.set_cons_zero, List.set_cons_succ])
          refine wpAnyH_take (i := 5) (oi := ⟨some 17, _, _, _, _, _⟩) (v := ?_) rfl (by kernel_rfl) (by kernel_rfl) (by kernel_rfl) (fun _ _ _ h => h) (Or.inl ⟨by rfl, ?hyt5⟩) (by assumption) ?_; (case hyt5 => ((intro W hSW; (try dsimp only at hSW); obtain ⟨s1, s2, s3, s4⟩ := hSW; go_simp); (all_goals with_reducible rfl))); (try simp only [Act.put, List.setIfInBounds_toArray, List.set_cons_zero, List.set_cons_succ])
          refine wpAnyH_take (i := 6) (oi := ⟨some 18, _, _, _, _, _⟩) (v := ?_) rfl (by kernel_rfl) (by kernel_rfl) (by kernel_rfl) (fun _ _ _ h => h) (Or.inl ⟨by rfl, ?hyt6⟩) (by assumption) ?_; (case hyt6 => ((intro W hSW; (try dsimp only at hSW); obtain ⟨s1, s2, s3, s4⟩ := hSW; go_simp); (all_goals with_reducible rfl))); (try simp only [Act.put, List.setIfInBounds_toArray, List.set_cons_zero, List.set_cons_succ])
          refine wpAnyH_take (i := 7) (oi := ⟨some 19, _, _, _, _, _⟩) (v := ?_) rfl (by kernel_rfl) (by kernel_rfl) (by kernel_rfl) (fun _ _ _ h => h) (Or.inl ⟨by rfl, ?hyt7⟩) (by assumption) ?_; (case hyt7 => ((intro W hSW; (try dsimp only at hSW); obtain ⟨s1, s2, s3, s4⟩ := hSW; go_simp); (all_goals with_reducible rfl))); (try simp only [Act.put, List.setIfInBounds_toArray, List.set_cons_zero, List.set_cons_succ])
          refine wpAnyH_take (i := 8) (oi := ⟨some 20, _, _, _, _, _⟩) (v := ?_) rfl (by kernel_rfl) (by kernel_rfl) (by kernel_rfl) (fun _ _ _ h => h) (Or.inl ⟨by rfl, ?hyt8⟩) (by assumption) ?_; (case hyt8 => ((intro W hSW; (try dsimp only at hSW); obtain ⟨s1, s2, s3, s4⟩ := hSW; go_simp); (all_goals with_reducible rfl))); (try simp only [Act.put, List.setIfInBounds_toArray, List.set_cons_zero, List.set_cons_succ])
          refine wpAnyH_take (i := 9) (oi := ⟨some 21, _, _, _, _, _⟩) (v := ?_) rfl (by kernel_rfl) (by kernel_rfl) (by kernel_rfl) (fun _ _ _ h => h) (Or.inl ⟨by rfl, ?hyt9⟩) (by assumption) ?_; (case hyt9 => ((intro W hSW; (try dsimp only at hSW); obtain ⟨s1, s2, s3, s4⟩ := hSW; go_simp); (all_goals with_reducible rfl))); (try simp only [Act.put, List.setIfInBounds_toArray, List.set_cons_zero, List.set_cons_succ])
          refine wpAnyH_take (i := 10) (oi := ⟨some 22, _, _, _, _, _⟩) (v := ?_) rfl (by kernel_rfl) (by kernel_rfl) (by kernel_rfl) (fun _ _ _ h => h) (Or.inl ⟨by rfl, ?hyt10⟩) (by assumption) ?_; (case hyt10 => ((intro W hSW; (try dsimp only at hSW); obtain ⟨s1, s2, s3, s4⟩ := hSW; go_simp); (all_goals with_reducible rfl))); (try simp only [Act.put, List.setIfInBounds_toArray, List.set_cons_zero, List.set_cons_succ])
          refine wpAnyH_take (i := 11) (oi := ⟨some 23, _, _, _, _, _⟩) (v := ?_) rfl (by kernel_rfl) (by kernel_rfl) (by kernel_rfl) (fun _ _ _ h => h) (Or.inl ⟨by rfl, ?hyt11⟩) (by assumption) ?_; (case hyt11 => ((intro W hSW; (try dsimp only at hSW); obtain ⟨s1, s2, s3, s4⟩ := hSW; go_simp); (all_goals with_reducible rfl))); (try simp only [Act.put, List.setIfInBounds_toArray, List.set_cons_zero, List.set_cons_succ])
          refine wpAnyH_take (i := 12) (oi := ⟨some 24, _, _, _, _, _⟩) (v := ?_) rfl (by kernel_rfl) (by kernel_rfl) (by kernel_rfl) (fun _ _ _ h => h) (Or.inl ⟨by rfl, ?hyt12⟩) (by assumption) ?_; (case hyt12 => ((intro W hSW; (try dsimp only at hSW); obtain ⟨s1, s2, s3, s4⟩ := hSW; go_simp); (all_goals with_reducible rfl))); (try simp only [Act.put, List.setIfInBounds_toArray, List.set_cons_zero, List.set_cons_succ])
          refine wpAnyH_take (i := 13) (oi := ⟨some 25, _, _, _, _, _⟩) (v := ?_) rfl (by kernel_rfl) (by kernel_rfl) (by kernel_rfl) (fun _ _ _ h => h) (Or.inl ⟨by rfl, ?hyt13⟩) (by assumption) ?_; (case hyt13 => ((intro W hSW; (try dsimp only at hSW); obtain ⟨s1, s2, s3, s4⟩ := hSW; go_simp); (all_goals with_reducible rfl))); (try simp only [Act.put, List.setIfInBounds_toArray, List.set_cons_zero, List.set_cons_succ])
          refine wpAnyH_ready (rs := [14]) (by kernel_rfl) (by simp) ?_; refine AllReadyH.cons (o := ⟨some 26, _, _, _, _, _⟩) rfl (fun K hK => ?_) AllReadyH.nil; go_simp
          go_at_call 86
          refine (HOR.out W1.drew).mono ?_; rintro e w3 ⟨rfl, hb3⟩; have HB3 : Below W1.heap.size W1 w3 := HD.trans hb3
          (try go_simp)
          refine hK.out _ _ (E.out _ HB3) (fun hHeld3 => ?_)
          clear hK K hHeld2
          (try simp only [Act.put, List.setIfInBounds_toArray, List.set_cons_zero, List.set_cons_succ])
          refine wpAnyH_take (i := 15) (oi := ⟨some 27, _, _, _, _, _⟩) (v := ?_) rfl (by kernel_rfl) (by kernel_rfl) (by kernel_rfl) (fun _ _ _ h => h) (Or.inl ⟨by rfl, ?hyt15⟩) (by assumption) ?_; (case hyt15 => ((intro W hSW; (try dsimp only at hSW); obtain ⟨s1, s2, s3, s4⟩ := hSW; go_simp); (all_goals with_reducible rfl))); (try simp only [Act.put, List.setIfInBounds_toArray, List.set_cons_zero, List.set_cons_succ])
          refine wpAnyH_take (i := 16) (oi := ⟨some 28, _, _, _, _, _⟩) (v := ?_) rfl (by kernel_rfl) (by kernel_rfl) (by kernel_rfl) (fun _ _ _ h => h) (Or.inl ⟨by rfl, ?hyt16⟩) (by assumption) ?_; (case hyt16 => ((intro W hSW; (try dsimp only at hSW); obtain ⟨s1, s2, s3, s4⟩ := hSW; go_simp); (all_goals with_reducible rfl))); (try simp only [Act.put, List.setIfInBounds_toArray, List.set_cons_zero, List.set_cons_succ])
          refine wpAnyH_take (i := 17) (oi := ⟨some 29, _, _, _, _, _⟩) (v := ?_) rfl (by kernel_rfl) (by kernel_rfl) (by kernel_rfl) (fun _ _ _ h => h) (Or.inl ⟨by rfl, ?hyt17⟩) (by assumption) ?_; (case hyt17 => ((intro W hSW; (try dsimp only at hSW); obtain ⟨s1, s2, s3, s4⟩ := hSW; go_simp); (all_goals with_reducible rfl))); (try simp only [Act.put, List.setIfInBounds_toArray, List.set_cons_zero, List.set_cons_succ])
          refine wpAnyH_done (by kernel_rfl) ?_ _
          refine NoPanic.normal ?_
          clear hHeld3
          have hB3 := hB1.trans (HB3.mono hB1.size)
          go_wp2_with fail
          all_goals first
            | (go_ret; exact ⟨by rw [name_no1 hkp (by rw [hAT'.out]; simp; omega)]; rfl, hB3⟩)
            | (go_roundw; (case rel => exact ⟨m + 1 + 1, by omega, by go_num, fun j hj => (by
                by_cases e : j = m + 1
                · rw [e, hAT'.out]; simp; omega
                · exact HALL.out j (by omega)), hB3⟩); (case measure => simp [intOf] <;> omega))
    · obtain rfl : k = n := by omega
      go_wp2_with fail
      go_ret
      exact ⟨by rw [right_yes (by rw [LL.out]; exact HALL.out)]; rfl, hB⟩
end Go.Proofs.YtfphffkgacajdaaDoor
/- The reference's Right. -/
namespace Go.Proofs.YtfphffkgacajdaaDoor
open Go.RowKit
set_option linter.unusedVariables false
set_option linter.unusedSimpArgs false
set_option maxHeartbeats 4000000
set_option maxRecDepth 20000
theorem rright_any (q : Option Addr) (n c : Nat) (ps : List Pr) (w : World) (hR : RowQ w q n ps) (hnm : ∀ i, (ps.getD i prD).name.length ≤ 1000000000) :
    Calls Tryd.prog 42 #[.slice q n c] w fun e w' => e = .returned (.bool (rightB ps)) ∧ Below w.heap.size w w' := by
  have LL := Lib.hid hR.length
  have hsm := RowG.small hR
  unfold maxLen at hsm
  go_enter Tryd.func42, Tryd.ntmps42
  go_wp2_with fail
  go_loopw [3] (fun i wr => ∃ k : Nat, k ≤ n ∧ i = .int .i64 k ∧ (∀ j, j < k → rightAt ps j = true) ∧ Below w.heap.size w wr) (fun i wr => n - (intOf i).toNat)
  case atStart => exact ⟨0, Nat.zero_le _, rfl, fun j hj => by omega, Below.refl _ _⟩
  case round =>
    obtain ⟨k, hk, rfl, hall, hB⟩ := hrel
    have HALL := Lib.hid hall
    clear hall
    by_cases hlt : k < n
    · obtain ⟨b, off, rfl, hb, hc⟩ := hR.at_ (by omega)
      have hk0 : (0 : Int) ≤ (k : Int) := by omega
      have hk1 : (k : Int) < (n : Int) := by omega
      have hkp : k < ps.length := by have := LL.out; omega
      have hbr : b < wr.heap.size := Nat.lt_of_lt_of_le hb hB.size
      have c0 := (hB.cell (p := ⟨b, off + k * 2, none⟩) hb).trans (hc k hlt).1
      have c1 := (hB.cell (p := ⟨b, off + k * 2 + 1, none⟩) hb).trans (hc k hlt).2
      have hAT : rightAt ps k = (nameB (ps.getD k prD).name && (decide (k = 0) || aheadB (ps.getD (k - 1) prD) (ps.getD k prD))) := rfl
      have HNM := rname_any (ps.getD k prD).name (hnm k)
      have HD : Below wr.heap.size wr wr.drew := (Below.refl _ _).drew
      have hwk : IntKind.i64.wrap (k : Int) = (k : Int) := IntWalk.i64_in _ (by omega)
      cases hnb : nameB (ps.getD k prD).name with
      | false =>
        have hAT' : rightAt ps k = false := by rw [hAT, hnb]; rfl
        rw [hnb] at HNM
        clear hnb hAT
        generalize ps.getD k prD = p at *
        replace HNM := Lib.hid HNM
        obtain ⟨pn, pv⟩ := p
        simp only at *
        clear hc hR
        have E : ∀ W, Below wr.heap.size wr W → W.cell? ⟨b, off + k * 2, none⟩ = some (.string ⟨pn.toArray⟩) ∧ W.cell? ⟨b, off + k * 2 + 1, none⟩ = some (.int .i64 pv) := fun W hW => ⟨(hW.cell (p := ⟨b, off + k * 2, none⟩) hbr).trans c0, (hW.cell (p := ⟨b, off + k * 2 + 1, none⟩) hbr).trans c1⟩
        replace E := Lib.hid E
        go_wp2_with fail
        refine wp_region_noPanic ?_
        refine wp_region_held_drew (S := (fun W => W.cell? ⟨b, off + k * 2, none⟩ = some (.string ⟨pn.toArray⟩) ∧ W.cell? ⟨b, off + k * 2 + 1, none⟩ = some (.int .i64 pv))) (by kernel_rfl) (E.out _ HD) (fun hHeld => ?_)
        refine wpAnyH_take (i := 0) (oi := ⟨some 10, _, _, _, _, _⟩) (v := ?_) rfl (by kernel_rfl) (by kernel_rfl) (by kernel_rfl) (fun _ _ _ h => h) (Or.inl ⟨by rfl, ?hyt0⟩) (by assumption) ?_; (case hyt0 => ((intro W hSW; (try dsimp only at hSW); obtain ⟨hSW, hSW2⟩ := hSW; go_simp); (all_goals with_reducible rfl))); (try simp only [Act.put, List.setIfInBounds_toArray, List.set_cons_zero, List.set_cons_succ])
        refine wpAnyH_take (i := 1) (oi := ⟨some 11, _, _, _, _, _⟩) (v := ?_) rfl (by kernel_rfl) (by kernel_rfl) (by kernel_rfl) (fun _ _ _ h => h) (Or.inl ⟨by rfl, ?hyt1⟩) (by assumption) ?_; (case hyt1 => ((intro W hSW; (try dsimp only at hSW); obtain ⟨hSW, hSW2⟩ := hSW; go_simp); (all_goals with_reducible rfl))); (try simp only [Act.put, List.setIfInBounds_toArray, List.set_cons_zero, List.set_cons_succ])
        refine wpAnyH_take (i := 2) (oi := ⟨some 12, _, _, _, _, _⟩) (v := ?_) rfl (by kernel_rfl) (by kernel_rfl) (by kernel_rfl) (fun _ _ _ h => h) (Or.inl ⟨by rfl, ?hyt2⟩) (by assumption) ?_; (case hyt2 => ((intro W hSW; (try dsimp only at hSW); obtain ⟨hSW, hSW2⟩ := hSW; go_simp); (all_goals with_reducible rfl))); (try simp only [Act.put, List.setIfInBounds_toArray, List.set_cons_zero, List.set_cons_succ])
        refine wpAnyH_take (i := 3) (oi := ⟨some 13, _, _, _, _, _⟩) (v := ?_) rfl (by kernel_rfl) (by kernel_rfl) (by kernel_rfl) (fun _ _ _ h => h) (Or.inl ⟨by rfl, ?hyt3⟩) (by assumption) ?_; (case hyt3 => ((intro W hSW; (try dsimp only at hSW); obtain ⟨hSW, hSW2⟩ := hSW; go_simp); (all_goals with_reducible rfl))); (try simp only [Act.put, List.setIfInBounds_toArray, List.set_cons_zero, List.set_cons_succ])
        refine wpAnyH_take (i := 4) (oi := ⟨some 14, _, _, _, _, _⟩) (v := ?_) rfl (by kernel_rfl) (by kernel_rfl) (by kernel_rfl) (fun _ _ _ h => h) (Or.inl ⟨by rfl, ?hyt4⟩) (by assumption) ?_; (case hyt4 => ((intro W hSW; (try dsimp only at hSW); obtain ⟨hSW, hSW2⟩ := hSW; go_simp); (all_goals with_reducible rfl))); (try simp only [Act.put, List.setIfInBounds_toArray, List.set_cons_zero, List.set_cons_succ])
        refine wpAnyH_ready (rs := [5]) (by kernel_rfl) (by simp) ?_; refine AllReadyH.cons (o := ⟨some 15, _, _, _, _, _⟩) rfl (fun K hK => ?_) AllReadyH.nil; go_simp
        go_at_call 82
        refine (HNM.out wr.drew).mono ?_; rintro e w3 ⟨rfl, rfl⟩
        (try go_simp)
        refine hK.out _ _ (E.out _ HD) (fun hHeld2 => ?_)
        clear hK K hHeld
        (try simp only [Act.put, List.setIfInBounds_toArray, List.set_cons_zero, List.set_cons_succ])
        refine wpAnyH_take (i := 6) (oi := ⟨some 16, _, _, _, _, _⟩) (v := ?_) rfl (by kernel_rfl) (by kernel_rfl) (by kernel_rfl) (fun _ _ _ h => h) (Or.inl ⟨by rfl, ?hyt6⟩) (by assumption) ?_; (case hyt6 => ((intro W hSW; (try dsimp only at hSW); obtain ⟨hSW, hSW2⟩ := hSW; go_simp); (all_goals with_reducible rfl))); (try simp only [Act.put, List.setIfInBounds_toArray, List.set_cons_zero, List.set_cons_succ])
        refine wpAnyH_take (i := 7) (oi := ⟨some 17, _, _, _, _, _⟩) (v := ?_) rfl (by kernel_rfl) (by kernel_rfl) (by kernel_rfl) (fun _ _ _ h => h) (Or.inl ⟨by rfl, ?hyt7⟩) (by assumption) ?_; (case hyt7 => ((intro W hSW; (try dsimp only at hSW); obtain ⟨hSW, hSW2⟩ := hSW; go_simp); (all_goals with_reducible rfl))); (try simp only [Act.put, List.setIfInBounds_toArray, List.set_cons_zero, List.set_cons_succ])
        refine wpAnyH_take (i := 8) (oi := ⟨some 18, _, _, _, _, _⟩) (v := undef) rfl (by kernel_rfl) (by kernel_rfl) (by kernel_rfl) (fun _ _ _ h => h) (Or.inr ⟨by rfl, rfl⟩) (by assumption) ?_; (try simp only [Act.put, List.setIfInBounds_toArray, List.set_cons_zero, List.set_cons_succ])
        refine wpAnyH_take (i := 9) (oi := ⟨some 19, _, _, _, _, _⟩) (v := undef) rfl (by kernel_rfl) (by kernel_rfl) (by kernel_rfl) (fun _ _ _ h => h) (Or.inr ⟨by rfl, rfl⟩) (by assumption) ?_; (try simp only [Act.put, List.setIfInBounds_toArray, List.set_cons_zero, List.set_cons_succ])
        refine wpAnyH_take (i := 10) (oi := ⟨some 20, _, _, _, _, _⟩) (v := undef) rfl (by kernel_rfl) (by kernel_rfl) (by kernel_rfl) (fun _ _ _ h => h) (Or.inr ⟨by rfl, rfl⟩) (by assumption) ?_; (try simp only [Act.put, List.setIfInBounds_toArray, List.set_cons_zero, List.set_cons_succ])
        refine wpAnyH_take (i := 11) (oi := ⟨some 21, _, _, _, _, _⟩) (v := undef) rfl (by kernel_rfl) (by kernel_rfl) (by kernel_rfl) (fun _ _ _ h => h) (Or.inr ⟨by rfl, rfl⟩) (by assumption) ?_; (try simp only [Act.put, List.setIfInBounds_toArray, List.set_cons_zero, List.set_cons_succ])
        refine wpAnyH_take (i := 12) (oi := ⟨some 22, _, _, _, _, _⟩) (v := undef) rfl (by kernel_rfl) (by kernel_rfl) (by kernel_rfl) (fun _ _ _ h => h) (Or.inr ⟨by rfl, rfl⟩) (by assumption) ?_; (try simp only [Act.put, List.setIfInBounds_toArray, List.set_cons_zero, List.set_cons_succ])
        refine wpAnyH_take (i := 13) (oi := ⟨some 23, _, _, _, _, _⟩) (v := undef) rfl (by kernel_rfl) (by kernel_rfl) (by kernel_rfl) (fun _ _ _ h => h) (Or.inr ⟨by rfl, rfl⟩) (by assumption) ?_; (try simp only [Act.put, List.setIfInBounds_toArray, List.set_cons_zero, List.set_cons_succ])
        refine wpAnyH_take (i := 14) (oi := ⟨some 24, _, _, _, _, _⟩) (v := undef) rfl (by kernel_rfl) (by kernel_rfl) (by kernel_rfl) (fun _ _ _ h => h) (Or.inr ⟨by rfl, rfl⟩) (by assumption) ?_; (try simp only [Act.put, List.setIfInBounds_toArray, List.set_cons_zero, List.set_cons_succ])
        refine wpAnyH_take (i := 15) (oi := ⟨some 25, _, _, _, _, _⟩) (v := undef) rfl (by kernel_rfl) (by kernel_rfl) (by kernel_rfl) (fun _ _ _ h => h) (Or.inr ⟨by rfl, rfl⟩) (by assumption) ?_; (try simp only [Act.put, List.setIfInBounds_toArray, List.set_cons_zero, List.set_cons_succ])
        refine wpAnyH_take (i := 16) (oi := ⟨some 26, _, _, _, _, _⟩) (v := undef) rfl (by kernel_rfl) (by kernel_rfl) (by kernel_rfl) (fun _ _ _ h => h) (Or.inr ⟨by rfl, rfl⟩) (by assumption) ?_; (try simp only [Act.put, List.setIfInBounds_toArray, List.set_cons_zero, List.set_cons_succ])
        refine wpAnyH_take (i := 17) (oi := ⟨some 27, _, _, _, _, _⟩) (v := undef) rfl (by kernel_rfl) (by kernel_rfl) (by kernel_rfl) (fun _ _ _ h => h) (Or.inr ⟨by rfl, rfl⟩) (by assumption) ?_; (try simp only [Act.put, List.setIfInBounds_toArray, List.set_cons_zero, List.set_cons_succ])
        refine wpAnyH_take (i := 18) (oi := ⟨some 28, _, _, _, _, _⟩) (v := undef) rfl (by kernel_rfl) (by kernel_rfl) (by kernel_rfl) (fun _ _ _ h => h) (Or.inr ⟨by rfl, rfl⟩) (by assumption) ?_; (try simp only [Act.put, List.setIfInBounds_toArray, List.set_cons_zero, List.set_cons_succ])
        refine wpAnyH_take (i := 19) (oi := ⟨some 29, _, _, _, _, _⟩) (v := undef) rfl (by kernel_rfl) (by kernel_rfl) (by kernel_rfl) (fun _ _ _ h => h) (Or.inr ⟨by rfl, rfl⟩) (by assumption) ?_; (try simp only [Act.put, List.setIfInBounds_toArray, List.set_cons_zero, List.set_cons_succ])
        refine wpAnyH_take (i := 20) (oi := ⟨some 30, _, _, _, _, _⟩) (v := undef) rfl (by kernel_rfl) (by kernel_rfl) (by kernel_rfl) (fun _ _ _ h => h) (Or.inr ⟨by rfl, rfl⟩) (by assumption) ?_; (try simp only [Act.put, List.setIfInBounds_toArray, List.set_cons_zero, List.set_cons_succ])
        refine wpAnyH_take (i := 21) (oi := ⟨some 31, _, _, _, _, _⟩) (v := undef) rfl (by kernel_rfl) (by kernel_rfl) (by kernel_rfl) (fun _ _ _ h => h) (Or.inr ⟨by rfl, rfl⟩) (by assumption) ?_; (try simp only [Act.put, List.setIfInBounds_toArray, List.set_cons_zero, List.set_cons_succ])
        refine wpAnyH_take (i := 22) (oi := ⟨some 32, _, _, _, _, _⟩) (v := undef) rfl (by kernel_rfl) (by kernel_rfl) (by kernel_rfl) (fun _ _ _ h => h) (Or.inr ⟨by rfl, rfl⟩) (by assumption) ?_; (try simp only [Act.put, List.setIfInBounds_toArray, List.set_cons_zero, List.set_cons_succ])
        refine wpAnyH_take (i := 23) (oi := ⟨some 33, _, _, _, _, _⟩) (v := ?_) rfl (by kernel_rfl) (by kernel_rfl) (by kernel_rfl) (fun _ _ _ h => h) (Or.inl ⟨by rfl, ?hyt23⟩) (by assumption) ?_; (case hyt23 => ((intro W hSW; (try dsimp only at hSW); obtain ⟨hSW, hSW2⟩ := hSW; go_simp); (all_goals with_reducible rfl))); (try simp only [Act.put, List.setIfInBounds_toArray, List.set_cons_zero, List.set_cons_succ])
        refine wpAnyH_done (by kernel_rfl) ?_ _
        refine NoPanic.normal ?_
        clear hHeld2
        go_wp2_with fail
        all_goals (go_ret; exact ⟨by rw [name_no1 hkp hAT']; rfl, hB.drew⟩)
      | true =>
        rw [hnb] at hAT HNM
        rw [Bool.true_and] at hAT
        clear hnb
        by_cases h0 : k = 0
        · subst h0
          have hAT' : rightAt ps 0 = true := by rw [hAT]; rfl
          clear hAT
          replace hAT' := Lib.hid hAT'
          generalize ps.getD 0 prD = p at *
          replace HNM := Lib.hid HNM
          obtain ⟨pn, pv⟩ := p
          simp only at *
          simp only [Nat.zero_mul, Nat.add_zero] at c0 c1
          clear hc hR
          have E : ∀ W, Below wr.heap.size wr W → W.cell? ⟨b, off, none⟩ = some (.string ⟨pn.toArray⟩) ∧ W.cell? ⟨b, off + 1, none⟩ = some (.int .i64 pv) := fun W hW => ⟨(hW.cell (p := ⟨b, off, none⟩) hbr).trans c0, (hW.cell (p := ⟨b, off + 1, none⟩) hbr).trans c1⟩
          replace E := Lib.hid E
          go_wp2_with fail
          refine wp_region_noPanic ?_
          refine wp_region_held_drew (S := (fun W => W.cell? ⟨b, off, none⟩ = some (.string ⟨pn.toArray⟩) ∧ W.cell? ⟨b, off + 1, none⟩ = some (.int .i64 pv))) (by kernel_rfl) (E.out _ HD) (fun hHeld => ?_)
          refine wpAnyH_take (i := 0) (oi := ⟨some 10, _, _, _, _, _⟩) (v := ?_) rfl (by kernel_rfl) (by kernel_rfl) (by kernel_rfl) (fun _ _ _ h => h) (Or.inl ⟨by rfl, ?hyt0⟩) (by assumption) ?_; (case hyt0 => ((intro W hSW; (try dsimp only at hSW); obtain ⟨hSW, hSW2⟩ := hSW; go_simp); (all_goals with_reducible rfl))); (try simp only [Act.put, List.setIfInBounds_toArray, List.set_cons_zero, List.set_cons_succ])
          refine wpAnyH_take (i := 1) (oi := ⟨some 11, _, _, _, _, _⟩) (v := ?_) rfl (by kernel_rfl) (by kernel_rfl) (by kernel_rfl) (fun _ _ _ h => h) (Or.inl ⟨by rfl, ?hyt1⟩) (by assumption) ?_; (case hyt1 => ((intro W hSW; (try dsimp only at hSW); obtain ⟨hSW, hSW2⟩ := hSW; go_simp); (all_goals with_reducible rfl))); (try simp only [Act.put, List.setIfInBounds_toArray, List.set_cons_zero, List.set_cons_succ])
          refine wpAnyH_take (i := 2) (oi := ⟨some 12, _, _, _, _, _⟩) (v := ?_) rfl (by kernel_rfl) (by kernel_rfl) (by kernel_rfl) (fun _ _ _ h => h) (Or.inl ⟨by rfl, ?hyt2⟩) (by assumption) ?_; (case hyt2 => ((intro W hSW; (try dsimp only at hSW); obtain ⟨hSW, hSW2⟩ := hSW; go_simp); (all_goals with_reducible rfl))); (try simp only [Act.put, List.setIfInBounds_toArray, List.set_cons_zero, List.set_cons_succ])
          refine wpAnyH_take (i := 3) (oi := ⟨some 13, _, _, _, _, _⟩) (v := ?_) rfl (by kernel_rfl) (by kernel_rfl) (by kernel_rfl) (fun _ _ _ h => h) (Or.inl ⟨by rfl, ?hyt3⟩) (by assumption) ?_; (case hyt3 => ((intro W hSW; (try dsimp only at hSW); obtain ⟨hSW, hSW2⟩ := hSW; go_simp); (all_goals with_reducible rfl))); (try simp only [Act.put, List.setIfInBounds_toArray, List.set_cons_zero, List.set_cons_succ])
          refine wpAnyH_take (i := 4) (oi := ⟨some 14, _, _, _, _, _⟩) (v := ?_) rfl (by kernel_rfl) (by kernel_rfl) (by kernel_rfl) (fun _ _ _ h => h) (Or.inl ⟨by rfl, ?hyt4⟩) (by assumption) ?_; (case hyt4 => ((intro W hSW; (try dsimp only at hSW); obtain ⟨hSW, hSW2⟩ := hSW; go_simp); (all_goals with_reducible rfl))); (try simp only [Act.put, List.setIfInBounds_toArray, List.set_cons_zero, List.set_cons_succ])
          refine wpAnyH_ready (rs := [5]) (by kernel_rfl) (by simp) ?_; refine AllReadyH.cons (o := ⟨some 15, _, _, _, _, _⟩) rfl (fun K hK => ?_) AllReadyH.nil; go_simp
          go_at_call 82
          refine (HNM.out wr.drew).mono ?_; rintro e w3 ⟨rfl, rfl⟩
          (try go_simp)
          refine hK.out _ _ (E.out _ HD) (fun hHeld2 => ?_)
          clear hK K hHeld
          (try simp only [Act.put, List.setIfInBounds_toArray, List.set_cons_zero, List.set_cons_succ])
          refine wpAnyH_take (i := 6) (oi := ⟨some 16, _, _, _, _, _⟩) (v := ?_) rfl (by kernel_rfl) (by kernel_rfl) (by kernel_rfl) (fun _ _ _ h => h) (Or.inl ⟨by rfl, ?hyt6⟩) (by assumption) ?_; (case hyt6 => ((intro W hSW; (try dsimp only at hSW); obtain ⟨hSW, hSW2⟩ := hSW; go_simp); (all_goals with_reducible rfl))); (try simp only [Act.put, List.setIfInBounds_toArray, List.set_cons_zero, List.set_cons_succ])
          refine wpAnyH_take (i := 7) (oi := ⟨some 17, _, _, _, _, _⟩) (v := ?_) rfl (by kernel_rfl) (by kernel_rfl) (by kernel_rfl) (fun _ _ _ h => h) (Or.inl ⟨by rfl, ?hyt7⟩) (by assumption) ?_; (case hyt7 => ((intro W hSW; (try dsimp only at hSW); obtain ⟨hSW, hSW2⟩ := hSW; go_simp); (all_goals with_reducible rfl))); (try simp only [Act.put, List.setIfInBounds_toArray, List.set_cons_zero, List.set_cons_succ])
          refine wpAnyH_take (i := 8) (oi := ⟨some 18, _, _, _, _, _⟩) (v := ?_) rfl (by kernel_rfl) (by kernel_rfl) (by kernel_rfl) (fun _ _ _ h => h) (Or.inl ⟨by rfl, ?hyt8⟩) (by assumption) ?_; (case hyt8 => ((intro W hSW; (try dsimp only at hSW); obtain ⟨hSW, hSW2⟩ := hSW; go_simp); (all_goals with_reducible rfl))); (try simp only [Act.put, List.setIfInBounds_toArray, List.set_cons_zero, List.set_cons_succ])
          refine wpAnyH_take (i := 9) (oi := ⟨some 19, _, _, _, _, _⟩) (v := ?_) rfl (by kernel_rfl) (by kernel_rfl) (by kernel_rfl) (fun _ _ _ h => h) (Or.inl ⟨by rfl, ?hyt9⟩) (by assumption) ?_; (case hyt9 => ((intro W hSW; (try dsimp only at hSW); obtain ⟨hSW, hSW2⟩ := hSW; go_simp); (all_goals with_reducible rfl))); (try simp only [Act.put, List.setIfInBounds_toArray, List.set_cons_zero, List.set_cons_succ])
          refine wpAnyH_take (i := 10) (oi := ⟨some 20, _, _, _, _, _⟩) (v := ?_) rfl (by kernel_rfl) (by kernel_rfl) (by kernel_rfl) (fun _ _ _ h => h) (Or.inl ⟨by rfl, ?hyt10⟩) (by assumption) ?_; (case hyt10 => ((intro W hSW; (try dsimp only at hSW); obtain ⟨hSW, hSW2⟩ := hSW; go_simp); (all_goals with_reducible rfl))); (try simp only [Act.put, List.setIfInBounds_toArray, List.set_cons_zero, List.set_cons_succ])
          refine wpAnyH_take (i := 11) (oi := ⟨some 21, _, _, _, _, _⟩) (v := undef) rfl (by kernel_rfl) (by kernel_rfl) (by kernel_rfl) (fun _ _ _ h => h) (Or.inr ⟨by rfl, rfl⟩) (by assumption) ?_; (try simp only [Act.put, List.setIfInBounds_toArray, List.set_cons_zero, List.set_cons_succ])
          refine wpAnyH_take (i := 12) (oi := ⟨some 22, _, _, _, _, _⟩) (v := undef) rfl (by kernel_rfl) (by kernel_rfl) (by kernel_rfl) (fun _ _ _ h => h) (Or.inr ⟨by rfl, rfl⟩) (by assumption) ?_; (try simp only [Act.put, List.setIfInBounds_toArray, List.set_cons_zero, List.set_cons_succ])
          refine wpAnyH_take (i := 13) (oi := ⟨some 23, _, _, _, _, _⟩) (v := undef) rfl (by kernel_rfl) (by kernel_rfl) (by kernel_rfl) (fun _ _ _ h => h) (Or.inr ⟨by rfl, rfl⟩) (by assumption) ?_; (try simp only [Act.put, List.setIfInBounds_toArray, List.set_cons_zero, List.set_cons_succ])
          refine wpAnyH_take (i := 14) (oi := ⟨some 24, _, _, _, _, _⟩) (v := undef) rfl (by kernel_rfl) (by kernel_rfl) (by kernel_rfl) (fun _ _ _ h => h) (Or.inr ⟨by rfl, rfl⟩) (by assumption) ?_; (try simp only [Act.put, List.setIfInBounds_toArray, List.set_cons_zero, List.set_cons_succ])
          refine wpAnyH_take (i := 15) (oi := ⟨some 25, _, _, _, _, _⟩) (v := undef) rfl (by kernel_rfl) (by kernel_rfl) (by kernel_rfl) (fun _ _ _ h => h) (Or.inr ⟨by rfl, rfl⟩) (by assumption) ?_; (try simp only [Act.put, List.setIfInBounds_toArray, List.set_cons_zero, List.set_cons_succ])
          refine wpAnyH_take (i := 16) (oi := ⟨some 26, _, _, _, _, _⟩) (v := undef) rfl (by kernel_rfl) (by kernel_rfl) (by kernel_rfl) (fun _ _ _ h => h) (Or.inr ⟨by rfl, rfl⟩) (by assumption) ?_; (try simp only [Act.put, List.setIfInBounds_toArray, List.set_cons_zero, List.set_cons_succ])
          refine wpAnyH_take (i := 17) (oi := ⟨some 27, _, _, _, _, _⟩) (v := undef) rfl (by kernel_rfl) (by kernel_rfl) (by kernel_rfl) (fun _ _ _ h => h) (Or.inr ⟨by rfl, rfl⟩) (by assumption) ?_; (try simp only [Act.put, List.setIfInBounds_toArray, List.set_cons_zero, List.set_cons_succ])
          refine wpAnyH_take (i := 18) (oi := ⟨some 28, _, _, _, _, _⟩) (v := undef) rfl (by kernel_rfl) (by kernel_rfl) (by kernel_rfl) (fun _ _ _ h => h) (Or.inr ⟨by rfl, rfl⟩) (by assumption) ?_; (try simp only [Act.put, List.setIfInBounds_toArray, List.set_cons_zero, List.set_cons_succ])
          refine wpAnyH_take (i := 19) (oi := ⟨some 29, _, _, _, _, _⟩) (v := undef) rfl (by kernel_rfl) (by kernel_rfl) (by kernel_rfl) (fun _ _ _ h => h) (Or.inr ⟨by rfl, rfl⟩) (by assumption) ?_; (try simp only [Act.put, List.setIfInBounds_toArray, List.set_cons_zero, List.set_cons_succ])
          refine wpAnyH_take (i := 20) (oi := ⟨some 30, _, _, _, _, _⟩) (v := undef) rfl (by kernel_rfl) (by kernel_rfl) (by kernel_rfl) (fun _ _ _ h => h) (Or.inr ⟨by rfl, rfl⟩) (by assumption) ?_; (try simp only [Act.put, List.setIfInBounds_toArray, List.set_cons_zero, List.set_cons_succ])
          refine wpAnyH_take (i := 21) (oi := ⟨some 31, _, _, _, _, _⟩) (v := undef) rfl (by kernel_rfl) (by kernel_rfl) (by kernel_rfl) (fun _ _ _ h => h) (Or.inr ⟨by rfl, rfl⟩) (by assumption) ?_; (try simp only [Act.put, List.setIfInBounds_toArray, List.set_cons_zero, List.set_cons_succ])
          refine wpAnyH_take (i := 22) (oi := ⟨some 32, _, _, _, _, _⟩) (v := ?_) rfl (by kernel_rfl) (by kernel_rfl) (by kernel_rfl) (fun _ _ _ h => h) (Or.inl ⟨by rfl, ?hyt22⟩) (by assumption) ?_; (case hyt22 => ((intro W hSW; (try dsimp only at hSW); obtain ⟨hSW, hSW2⟩ := hSW; go_simp); (all_goals with_reducible rfl))); (try simp only [Act.put, List.setIfInBounds_toArray, List.set_cons_zero, List.set_cons_succ])
          refine wpAnyH_take (i := 23) (oi := ⟨some 33, _, _, _, _, _⟩) (v := ?_) rfl (by kernel_rfl) (by kernel_rfl) (by kernel_rfl) (fun _ _ _ h => h) (Or.inl ⟨by rfl, ?hyt23⟩) (by assumption) ?_; (case hyt23 => ((intro W hSW; (try dsimp only at hSW); obtain ⟨hSW, hSW2⟩ := hSW; go_simp); (all_goals with_reducible rfl))); (try simp only [Act.put, List.setIfInBounds_toArray, List.set_cons_zero, List.set_cons_succ])
          refine wpAnyH_done (by kernel_rfl) ?_ _
          refine NoPanic.normal ?_
          clear hHeld2
          go_wp2_with fail
          all_goals
            go_roundw
            case rel => exact ⟨1, by omega, by go_num, fun j hj => (by (obtain rfl : j = 0 := by omega); exact hAT'.out), hB.drew⟩
            case measure => simp [intOf] <;> omega
        · obtain ⟨m, rfl⟩ : ∃ m, k = m + 1 := ⟨k - 1, by omega⟩
          have hAT' : rightAt ps (m + 1) = aheadB (ps.getD m prD) (ps.getD (m + 1) prD) := by rw [hAT]; simp
          clear hAT
          have p0 := (hB.cell (p := ⟨b, off + m * 2, none⟩) hb).trans (hc m (by omega)).1
          have p1 := (hB.cell (p := ⟨b, off + m * 2 + 1, none⟩) hb).trans (hc m (by omega)).2
          have HOR := ahead_any (ps.getD m prD) (ps.getD (m + 1) prD)
          generalize ps.getD (m + 1) prD = p at *
          generalize ps.getD m prD = p' at *
          generalize aheadB p' p = o at *
          unfold prA at HOR
          obtain ⟨pn, pv⟩ := p
          obtain ⟨pn', pv'⟩ := p'
          simp only at *
          replace HNM := Lib.hid HNM
          replace HOR := Lib.hid HOR
          replace hAT' := Lib.hid hAT'
          clear hc hR
          have E : ∀ W, Below wr.heap.size wr W → W.cell? ⟨b, off + (m + 1) * 2, none⟩ = some (.string ⟨pn.toArray⟩) ∧ W.cell? ⟨b, off + (m + 1) * 2 + 1, none⟩ = some (.int .i64 pv) ∧ W.cell? ⟨b, off + m * 2, none⟩ = some (.string ⟨pn'.toArray⟩) ∧ W.cell? ⟨b, off + m * 2 + 1, none⟩ = some (.int .i64 pv') := fun W hW =>
            ⟨(hW.cell (p := ⟨b, off + (m + 1) * 2, none⟩) hbr).trans c0, (hW.cell (p := ⟨b, off + (m + 1) * 2 + 1, none⟩) hbr).trans c1, (hW.cell (p := ⟨b, off + m * 2, none⟩) hbr).trans p0, (hW.cell (p := ⟨b, off + m * 2 + 1, none⟩) hbr).trans p1⟩
          replace E := Lib.hid E
          have hm1 : IntKind.i64.wrap (m : Int) = (m : Int) := IntWalk.i64_in _ (by omega)
          have hm0 : (0 : Int) ≤ (m : Int) := by omega
          have hmn : (m : Int) < (n : Int) := by omega
          have hmp : (0 : Int) < (m : Int) + 1 := by omega
          have hmq : (0 : Int) ≤ (m : Int) + 1 := by omega
          go_wp2_with fail
          refine wp_region_noPanic ?_
          refine wp_region_held_drew (S := (fun W => W.cell? ⟨b, off + (m + 1) * 2, none⟩ = some (.string ⟨pn.toArray⟩) ∧ W.cell? ⟨b, off + (m + 1) * 2 + 1, none⟩ = some (.int .i64 pv) ∧ W.cell? ⟨b, off + m * 2, none⟩ = some (.string ⟨pn'.toArray⟩) ∧ W.cell? ⟨b, off + m * 2 + 1, none⟩ = some (.int .i64 pv'))) (by kernel_rfl) (E.out _ HD) (fun hHeld => ?_)
          refine wpAnyH_take (i := 0) (oi := ⟨some 10, _, _, _, _, _⟩) (v := ?_) rfl (by kernel_rfl) (by kernel_rfl) (by kernel_rfl) (fun _ _ _ h => h) (Or.inl ⟨by rfl, ?hyt0⟩) (by assumption) ?_; (case hyt0 => ((intro W hSW; (try dsimp only at hSW); obtain ⟨s1, s2, s3, s4⟩ := hSW; go_simp); (all_goals with_reducible rfl))); (try simp only [Act.put, List.setIfInBounds_toArray, List.set_cons_zero, List.set_cons_succ])
          refine wpAnyH_take (i := 1) (oi := ⟨some 11, _, _, _, _, _⟩) (v := ?_) rfl (by kernel_rfl) (by kernel_rfl) (by kernel_rfl) (fun _ _ _ h => h) (Or.inl ⟨by rfl, ?hyt1⟩) (by assumption) ?_; (case hyt1 => ((intro W hSW; (try dsimp only at hSW); obtain ⟨s1, s2, s3, s4⟩ := hSW; go_simp); (all_goals with_reducible rfl))); (try simp only [Act.put, List.setIfInBounds_toArray, List.set_cons_zero, List.set_cons_succ])
          refine wpAnyH_take (i := 2) (oi := ⟨some 12, _, _, _, _, _⟩) (v := ?_) rfl (by kernel_rfl) (by kernel_rfl) (by kernel_rfl) (fun _ _ _ h => h) (Or.inl ⟨by rfl, ?hyt2⟩) (by assumption) ?_; (case hyt2 => ((intro W hSW; (try dsimp only at hSW); obtain ⟨s1, s2, s3, s4⟩ := hSW; go_simp); (all_goals with_reducible rfl))); (try simp only [Act.put, List.setIfInBounds_toArray, List.set_cons_zero, List.set_cons_succ])
          refine wpAnyH_take (i := 3) (oi := ⟨some 13, _, _, _, _, _⟩) (v := ?_) rfl (by kernel_rfl) (by kernel_rfl) (by kernel_rfl) (fun _ _ _ h => h) (Or.inl ⟨by rfl, ?hyt3⟩) (by assumption) ?_; (case hyt3 => ((intro W hSW; (try dsimp only at hSW); obtain ⟨s1, s2, s3, s4⟩ := hSW; go_simp); (all_goals with_reducible rfl))); (try simp only [Act.put, List.setIfInBounds_toArray, List.set_cons_zero, List.set_cons_succ])
          refine wpAnyH_take (i := 4) (oi := ⟨some 14, _, _, _, _, _⟩) (v := ?_) rfl (by kernel_rfl) (by kernel_rfl) (by kernel_rfl) (fun _ _ _ h => h) (Or.inl ⟨by rfl, ?hyt4⟩) (by assumption) ?_; (case hyt4 => ((intro W hSW; (try dsimp only at hSW); obtain ⟨s1, s2, s3, s4⟩ := hSW; go_simp); (all_goals with_reducible rfl))); (try simp only [Act.put, List.setIfInBounds_toArray, List.set_cons_zero, List.set_cons_succ])
          refine wpAnyH_ready (rs := [5]) (by kernel_rfl) (by simp) ?_; refine AllReadyH.cons (o := ⟨some 15, _, _, _, _, _⟩) rfl (fun K hK => ?_) AllReadyH.nil; go_simp
          go_at_call 82
          refine (HNM.out wr.drew).mono ?_; rintro e w3 ⟨rfl, rfl⟩
          (try go_simp)
          refine hK.out _ _ (E.out _ HD) (fun hHeld2 => ?_)
          clear hK K hHeld
          (try simp only [Act.put, List.setIfInBounds_toArray, List.set_cons_zero, List.set_cons_succ])
          refine wpAnyH_take (i := 6) (oi := ⟨some 16, _, _, _, _, _⟩) (v := ?_) rfl (by kernel_rfl) (by kernel_rfl) (by kernel_rfl) (fun _ _ _ h => h) (Or.inl ⟨by rfl, ?hyt6⟩) (by assumption) ?_; (case hyt6 => ((intro W hSW; (try dsimp only at hSW); obtain ⟨s1, s2, s3, s4⟩ := hSW; go_simp); (all_goals with_reducible rfl))); (try simp only [Act.put, List.setIfInBounds_toArray, List.set_cons_zero, List.set_cons_succ])
          refine wpAnyH_take (i := 7) (oi := ⟨some 17, _, _, _, _, _⟩) (v := ?_) rfl (by kernel_rfl) (by kernel_rfl) (by kernel_rfl) (fun _ _ _ h => h) (Or.inl ⟨by rfl, ?hyt7⟩) (by assumption) ?_; (case hyt7 => ((intro W hSW; (try dsimp only at hSW); obtain ⟨s1, s2, s3, s4⟩ := hSW; go_simp); (all_goals with_reducible rfl))); (try simp only [Act.put, List.setIfInBounds_toArray, List.set_cons_zero, List.set_cons_succ])
          refine wpAnyH_take (i := 8) (oi := ⟨some 18, _, _, _, _, _⟩) (v := ?_) rfl (by kernel_rfl) (by kernel_rfl) (by kernel_rfl) (fun _ _ _ h => h) (Or.inl ⟨by rfl, ?hyt8⟩) (by assumption) ?_; (case hyt8 => ((intro W hSW; (try dsimp only at hSW); obtain ⟨s1, s2, s3, s4⟩ := hSW; go_simp); (all_goals with_reducible rfl))); (try simp only [Act.put, List.setIfInBounds_toArray, List.set_cons_zero, List.set_cons_succ])
          refine wpAnyH_take (i := 9) (oi := ⟨some 19, _, _, _, _, _⟩) (v := ?_) rfl (by kernel_rfl) (by kernel_rfl) (by kernel_rfl) (fun _ _ _ h => h) (Or.inl ⟨by rfl, ?hyt9⟩) (by assumption) ?_; (case hyt9 => ((intro W hSW; (try dsimp only at hSW); obtain ⟨s1, s2, s3, s4⟩ := hSW; go_simp); (all_goals with_reducible rfl))); (try simp only [Act.put, List.setIfInBounds_toArray, List.set_cons_zero, List.set_cons_succ])
          refine wpAnyH_take (i := 10) (oi := ⟨some 20, _, _, _, _, _⟩) (v := ?_) rfl (by kernel_rfl) (by kernel_rfl) (by kernel_rfl) (fun _ _ _ h => h) (Or.inl ⟨by rfl, ?hyt10⟩) (by assumption) ?_; (case hyt10 => ((intro W hSW; (try dsimp only at hSW); obtain ⟨s1, s2, s3, s4⟩ := hSW; go_simp); (all_goals with_reducible rfl))); (try simp only [Act.put, List.setIfInBounds_toArray, List.set_cons_zero, List.set_cons_succ])
          refine wpAnyH_take (i := 11) (oi := ⟨some 21, _, _, _, _, _⟩) (v := ?_) rfl (by kernel_rfl) (by kernel_rfl) (by kernel_rfl) (fun _ _ _ h => h) (Or.inl ⟨by rfl, ?hyt11⟩) (by assumption) ?_; (case hyt11 => ((intro W hSW; (try dsimp only at hSW); obtain ⟨s1, s2, s3, s4⟩ := hSW; go_simp); (all_goals with_reducible rfl))); (try simp only [Act.put, List.setIfInBounds_toArray, List.set_cons_zero, List.set_cons_succ])
          refine wpAnyH_take (i := 12) (oi := ⟨some 22, _, _, _, _, _⟩) (v := ?_) rfl (by kernel_rfl) (by kernel_rfl) (by kernel_rfl) (fun _ _ _ h => h) (Or.inl ⟨by rfl, ?hyt12⟩) (by assumption) ?_; (case hyt12 => ((intro W hSW; (try dsimp only at hSW); obtain ⟨s1, s2, s3, s4⟩ := hSW; go_simp); (all_goals with_reducible rfl))); (try simp only [Act.put, List.setIfInBounds_toArray, List.set_cons_zero, List.set_cons_succ])
          refine wpAnyH_take (i := 13) (oi := ⟨some 23, _, _, _, _, _⟩) (v := ?_) rfl (by kernel_rfl) (by kernel_rfl) (by kernel_rfl) (fun _ _ _ h => h) (Or.inl ⟨by rfl, ?hyt13⟩) (by assumption) ?_; (case hyt13 => ((intro W hSW; (try dsimp only at hSW); obtain ⟨s1, s2, s3, s4⟩ := hSW; go_simp); (all_goals with_reducible rfl))); (try simp only [Act.put, List.setIfInBounds_toArray, List.set_cons_zero, List.set_cons_succ])
          refine wpAnyH_take (i := 14) (oi := ⟨some 24, _, _, _, _, _⟩) (v := ?_) rfl (by kernel_rfl) (by kernel_rfl) (by kernel_rfl) (fun _ _ _ h => h) (Or.inl ⟨by rfl, ?hyt14⟩) (by assumption) ?_; (case hyt14 => ((intro W hSW; (try dsimp only at hSW); obtain ⟨s1, s2, s3, s4⟩ := hSW; go_simp); (all_goals with_reducible rfl))); (try simp only [Act.put, List.setIfInBounds_toArray, List.set_cons_zero, List.set_cons_succ])
          refine wpAnyH_take (i := 15) (oi := ⟨some 25, _, _, _, _, _⟩) (v := ?_) rfl (by kernel_rfl) (by kernel_rfl) (by kernel_rfl) (fun _ _ _ h => h) (Or.inl ⟨by rfl, ?hyt15⟩) (by assumption) ?_; (case hyt15 => ((intro W hSW; (try dsimp only at hSW); obtain ⟨s1, s2, s3, s4⟩ := hSW; go_simp); (all_goals with_reducible rfl))); (try simp only [Act.put, List.setIfInBounds_toArray, List.set_cons_zero, List.set_cons_succ])
          refine wpAnyH_take (i := 16) (oi := ⟨some 26, _, _, _, _, _⟩) (v := ?_) rfl (by kernel_rfl) (by kernel_rfl) (by kernel_rfl) (fun _ _ _ h => h) (Or.inl ⟨by rfl, ?hyt16⟩) (by assumption) ?_; (case hyt16 => ((intro W hSW; (try dsimp only at hSW); obtain ⟨s1, s2, s3, s4⟩ := hSW; go_simp); (all_goals with_reducible rfl))); (try simp only [Act.put, List.setIfInBounds_toArray, List.set_cons_zero, List.set_cons_succ])
          refine wpAnyH_take (i := 17) (oi := ⟨some 27, _, _, _, _, _⟩) (v := ?_) rfl (by kernel_rfl) (by kernel_rfl) (by kernel_rfl) (fun _ _ _ h => h) (Or.inl ⟨by rfl, ?hyt17⟩) (by assumption) ?_; (case hyt17 => ((intro W hSW; (try dsimp only at hSW); obtain ⟨s1, s2, s3, s4⟩ := hSW; go_simp); (all_goals with_reducible rfl))); (try simp only [Act.put, List.setIfInBounds_toArray, List.set_cons_zero, List.set_cons_succ])
          refine wpAnyH_take (i := 18) (oi := ⟨some 28, _, _, _, _, _⟩) (v := ?_) rfl (by kernel_rfl) (by kernel_rfl) (by kernel_rfl) (fun _ _ _ h => h) (Or.inl ⟨by rfl, ?hyt18⟩) (by assumption) ?_; (case hyt18 => ((intro W hSW; (try dsimp only at hSW); obtain ⟨s1, s2, s3, s4⟩ := hSW; go_simp); (all_goals with_reducible rfl))); (try simp only [Act.put, List.setIfInBounds_toArray, List.set_cons_zero, List.set_cons_succ])
          refine wpAnyH_take (i := 19) (oi := ⟨some 29, _, _, _, _, _⟩) (v := ?_) rfl (by kernel_rfl) (by kernel_rfl) (by kernel_rfl) (fun _ _ _ h => h) (Or.inl ⟨by rfl, ?hyt19⟩) (by assumption) ?_; (case hyt19 => ((intro W hSW; (try dsimp only at hSW); obtain ⟨s1, s2, s3, s4⟩ := hSW; go_simp); (all_goals with_reducible rfl))); (try simp only [Act.put, List.setIfInBounds_toArray, List.set_cons_zero, List.set_cons_succ])
          refine wpAnyH_ready (rs := [20]) (by kernel_rfl) (by simp) ?_; refine AllReadyH.cons (o := ⟨some 30, _, _, _, _, _⟩) rfl (fun K hK => ?_) AllReadyH.nil; go_simp
          go_at_call 83
          refine (HOR.out wr.drew).mono ?_; rintro e w3 ⟨rfl, hb3⟩; have HB3 : Below wr.heap.size wr w3 := HD.trans hb3
          (try go_simp)
          refine hK.out _ _ (E.out _ HB3) (fun hHeld3 => ?_)
          clear hK K hHeld2
          (try simp only [Act.put, List.setIfInBounds_toArray, List.set_cons_zero, List.set_cons_succ])
          refine wpAnyH_take (i := 21) (oi := ⟨some 31, _, _, _, _, _⟩) (v := ?_) rfl (by kernel_rfl) (by kernel_rfl) (by kernel_rfl) (fun _ _ _ h => h) (Or.inl ⟨by rfl, ?hyt21⟩) (by assumption) ?_; (case hyt21 => ((intro W hSW; (try dsimp only at hSW); obtain ⟨s1, s2, s3, s4⟩ := hSW; go_simp); (all_goals with_reducible rfl))); (try simp only [Act.put, List.setIfInBounds_toArray, List.set_cons_zero, List.set_cons_succ])
          refine wpAnyH_take (i := 22) (oi := ⟨some 32, _, _, _, _, _⟩) (v := ?_) rfl (by kernel_rfl) (by kernel_rfl) (by kernel_rfl) (fun _ _ _ h => h) (Or.inl ⟨by rfl, ?hyt22⟩) (by assumption) ?_; (case hyt22 => ((intro W hSW; (try dsimp only at hSW); obtain ⟨s1, s2, s3, s4⟩ := hSW; go_simp); (all_goals with_reducible rfl))); (try simp only [Act.put, List.setIfInBounds_toArray, List.set_cons_zero, List.set_cons_succ])
          refine wpAnyH_take (i := 23) (oi := ⟨some 33, _, _, _, _, _⟩) (v := ?_) rfl (by kernel_rfl) (by kernel_rfl) (by kernel_rfl) (fun _ _ _ h => h) (Or.inl ⟨by rfl, ?hyt23⟩) (by assumption) ?_; (case hyt23 => ((intro W hSW; (try dsimp only at hSW); obtain ⟨s1, s2, s3, s4⟩ := hSW; go_simp); (all_goals with_reducible rfl))); (try simp only [Act.put, List.setIfInBounds_toArray, List.set_cons_zero, List.set_cons_succ])
          refine wpAnyH_done (by kernel_rfl) ?_ _
          refine NoPanic.normal ?_
          clear hHeld3
          have hB3 := hB.trans (HB3.mono hB.size)
          cases o with
          | false =>
            go_wp2_with fail
            go_ret
            exact ⟨by rw [name_no1 hkp hAT'.out]; rfl, hB3⟩
          | true =>
            go_wp2_with fail
            go_roundw
            case rel => exact ⟨m + 1 + 1, by omega, by go_num, fun j hj => (by
              by_cases e : j = m + 1
              · rw [e, hAT'.out]
              · exact HALL.out j (by omega)), hB3⟩
            case measure => simp [intOf] <;> omega
    · obtain rfl : k = n := by omega
      go_wp2_with fail
      go_ret
      exact ⟨by rw [right_yes (by rw [LL.out]; exact HALL.out)]; rfl, hB⟩
end Go.Proofs.YtfphffkgacajdaaDoor
