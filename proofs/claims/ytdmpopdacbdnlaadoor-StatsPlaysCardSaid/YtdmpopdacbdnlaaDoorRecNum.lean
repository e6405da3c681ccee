/- record.number, record.set: contracts; the reference's number, most, with. -/
import Derived.Test.YtdmpopdacbdnlaaDoorRecMay
import Derived.Test.YtdmpopdacbdnlaaDoorRecRef
import Derived.Test.YtdmpopdacbdnlaaDoorKitG
namespace Go.Proofs.YtdmpopdacbdnlaaDoor
open Go.RowKit
set_option linter.unusedVariables false
set_option linter.unusedSimpArgs false
set_option maxHeartbeats 4000000
set_option maxRecDepth 20000
/-- a field's number -/
def numU (r : Rec) (c : UInt8) : Nat :=
  if c = 115 then r.source.toNat
  else if c = 113 then r.seq
  else if c = 97 then r.at_.toNat
  else if c = 110 then r.num.toNat
  else if c = 99 then r.code.toNat
  else if c = 121 then (if r.yes = true then 1 else 0)
  else 0
/-- no number of it is below nought -/
structure Rec.pos (r : Rec) : Prop where
  source : 0 ≤ r.source ∧ r.source ≤ 9223372036854775807
  seq : r.seq ≤ 18446744073709551615
  at_ : 0 ≤ r.at_ ∧ r.at_ ≤ 9223372036854775807
  num : 0 ≤ r.num ∧ r.num ≤ 9223372036854775807
  code : 0 ≤ r.code ∧ r.code ≤ 9223372036854775807
theorem numU_le (r : Rec) (c : UInt8) (h : r.pos) : numU r c ≤ 18446744073709551615 := by
  have h1 := h.source
  have h2 := h.seq
  have h3 := h.at_
  have h4 := h.num
  have h5 := h.code
  unfold numU
  repeat' split
  all_goals omega
theorem number_any (b : Nat) (r : Rec) (c : UInt8) (w : World) (h : RecAt w b 0 r) (hp : r.pos) :
    Calls Tryd.prog 86 #[.pointer (some ⟨b, 0, none⟩), .int .u8 (c.toNat : Int)] w fun e w' => e = .returned (.int .u64 (numU r c : Int)) ∧ w = w' := by
  obtain ⟨c0, c1, c2, c3, c4, c5, c6, c7⟩ := h
  simp only [Nat.zero_add] at c0 c1 c2 c3 c4 c5 c6 c7
  obtain ⟨⟨h1, h1'⟩, h2, ⟨h3, h3'⟩, ⟨h4, h4'⟩, ⟨h5, h5'⟩⟩ := hp
  have w1 : IntKind.u64.wrap r.source = r.source := IntWalk.u64_in _ (by omega)
  have w3 : IntKind.u64.wrap r.at_ = r.at_ := IntWalk.u64_in _ (by omega)
  have w4 : IntKind.u64.wrap r.num = r.num := IntWalk.u64_in _ (by omega)
  have w5 : IntKind.u64.wrap r.code = r.code := IntWalk.u64_in _ (by omega)
  unfold numU
  by_cases e1 : c = 115
  · subst e1
    rw [if_pos rfl]
    go_enter Tryd.func86, Tryd.ntmps86
    go_wp2_with fail
    go_ret
    exact ⟨ret_int (by omega), rfl⟩
  have k1 : ((c.toNat : Int) == 115) = false := u8_ne e1
  rw [if_neg e1]
  by_cases e2 : c = 113
  · subst e2
    rw [if_pos rfl]
    clear k1
    go_enter Tryd.func86, Tryd.ntmps86
    go_wp2_with fail
    go_ret
    exact ⟨rfl, rfl⟩
  have k2 : ((c.toNat : Int) == 113) = false := u8_ne e2
  rw [if_neg e2]
  by_cases e3 : c = 97
  · subst e3
    rw [if_pos rfl]
    clear k1 k2
    go_enter Tryd.func86, Tryd.ntmps86
    go_wp2_with fail
    go_ret
    exact ⟨ret_int (by omega), rfl⟩
  have k3 : ((c.toNat : Int) == 97) = false := u8_ne e3
  rw [if_neg e3]
  by_cases e4 : c = 110
  · subst e4
    rw [if_pos rfl]
    clear k1 k2 k3
    go_enter Tryd.func86, Tryd.ntmps86
    go_wp2_with fail
    go_ret
    exact ⟨ret_int (by omega), rfl⟩
  have k4 : ((c.toNat : Int) == 110) = false := u8_ne e4
  rw [if_neg e4]
  by_cases e5 : c = 99
  · subst e5
    rw [if_pos rfl]
    clear k1 k2 k3 k4
    go_enter Tryd.func86, Tryd.ntmps86
    go_wp2_with fail
    go_ret
    exact ⟨ret_int (by omega), rfl⟩
  have k5 : ((c.toNat : Int) == 99) = false := u8_ne e5
  rw [if_neg e5]
  by_cases e6 : c = 121
  · subst e6
    rw [if_pos rfl]
    clear k1 k2 k3 k4 k5
    generalize r.yes = y at *
    cases y
    all_goals
      go_enter Tryd.func86, Tryd.ntmps86
      go_wp2_with fail
      go_ret
      exact ⟨rfl, rfl⟩
  have k6 : ((c.toNat : Int) == 121) = false := u8_ne e6
  rw [if_neg e6]
  go_enter Tryd.func86, Tryd.ntmps86
  go_wp2_with fail
  go_ret
  exact ⟨rfl, rfl⟩
/-! set -/
def mostU (c : UInt8) (u : Nat) : Nat := if c = 115 then 7 else if c = 113 then u else if c = 99 then 255 else if c = 121 then 1 else 9223372036854775807
def set1 (r : Rec) (c : UInt8) (u : Nat) : Rec :=
  if c = 115 then { r with source := (min u 7 : Nat) }
  else if c = 113 then { r with seq := u }
  else if c = 97 then { r with at_ := (min u 9223372036854775807 : Nat) }
  else if c = 110 then { r with num := (min u 9223372036854775807 : Nat) }
  else if c = 99 then { r with code := (min u 255 : Nat) }
  else if c = 121 then { r with yes := decide (u = 1) }
  else r
def okU (c : UInt8) (u : Nat) : Bool := decide (u ≤ mostU c u)
theorem set_any (b : Nat) (r : Rec) (c : UInt8) (u : Nat) (hu : u ≤ 18446744073709551615) (hc : c = 115 ∨ c = 113 ∨ c = 97 ∨ c = 110 ∨ c = 99 ∨ c = 121) (w : World) (h : RecBox w b r) :
    Calls Tryd.prog 96 #[.pointer (some ⟨b, 0, none⟩), .int .u8 (c.toNat : Int), .int .u64 (u : Int)] w fun e w' => e = .returned (.bool (okU c u)) ∧ RecBox w' b (set1 r c u) ∧ Turn (fun k => k = b) w w' := by
  obtain ⟨hlt, ⟨c0, c1, c2, c3, c4, c5, c6, c7⟩, f1, f2, f3, f4, f5, f6, f7⟩ := h
  simp only [Nat.zero_add] at c0 c1 c2 c3 c4 c5 c6 c7
  rcases hc with rfl | rfl | rfl | rfl | rfl | rfl
  · rw [show set1 r 115 u = { r with source := (min u 7 : Nat) } from rfl, show okU 115 u = decide (u ≤ 7) from rfl]
    by_cases hm : u ≤ 7
    · have hm' : ¬ (7 : Int) < (u : Int) := by omega
      have e : min u 7 = u := by omega
      rw [e]
      clear e
      go_enter Tryd.func96, Tryd.ntmps96; go_wp2_with fail; go_ret; refine ⟨ret_bool (by first | rfl | (simp; done) | (simp; omega) | (symm; simp; omega)), ⟨by simp [World.setCell]; omega, ⟨by simp [go_sem, c0, hlt], by simp [go_sem, c1, hlt], by simp [go_sem, c2, hlt], by simp [go_sem, c3, hlt], by simp [go_sem, c4, hlt], by simp [go_sem, c5, hlt], by simp [go_sem, c6, hlt], by simp [go_sem, c7, hlt]⟩, by simp [go_sem, f1, hlt], by simp [go_sem, f2, hlt], by simp [go_sem, f3, hlt], by simp [go_sem, f4, hlt], by simp [go_sem, f5, hlt], by simp [go_sem, f6, hlt], by simp [go_sem, f7, hlt]⟩, (by first | exact Box.setTurn w b 1 _ | exact Turn.refl _ _)⟩
    · have hm' : (7 : Int) < (u : Int) := by omega
      have e : min u 7 = 7 := by omega
      rw [e]
      clear e
      go_enter Tryd.func96, Tryd.ntmps96; go_wp2_with fail; go_ret; refine ⟨ret_bool (by first | rfl | (simp; done) | (simp; omega) | (symm; simp; omega)), ⟨by simp [World.setCell]; omega, ⟨by simp [go_sem, c0, hlt], by simp [go_sem, c1, hlt], by simp [go_sem, c2, hlt], by simp [go_sem, c3, hlt], by simp [go_sem, c4, hlt], by simp [go_sem, c5, hlt], by simp [go_sem, c6, hlt], by simp [go_sem, c7, hlt]⟩, by simp [go_sem, f1, hlt], by simp [go_sem, f2, hlt], by simp [go_sem, f3, hlt], by simp [go_sem, f4, hlt], by simp [go_sem, f5, hlt], by simp [go_sem, f6, hlt], by simp [go_sem, f7, hlt]⟩, (by first | exact Box.setTurn w b 1 _ | exact Turn.refl _ _)⟩
  · rw [show set1 r 113 u = { r with seq := u } from rfl, show okU 113 u = decide (u ≤ u) from rfl]
    go_enter Tryd.func96, Tryd.ntmps96; go_wp2_with fail; go_ret; refine ⟨ret_bool (by first | rfl | (simp; done) | (simp; omega) | (symm; simp; omega)), ⟨by simp [World.setCell]; omega, ⟨by simp [go_sem, c0, hlt], by simp [go_sem, c1, hlt], by simp [go_sem, c2, hlt], by simp [go_sem, c3, hlt], by simp [go_sem, c4, hlt], by simp [go_sem, c5, hlt], by simp [go_sem, c6, hlt], by simp [go_sem, c7, hlt]⟩, by simp [go_sem, f1, hlt], by simp [go_sem, f2, hlt], by simp [go_sem, f3, hlt], by simp [go_sem, f4, hlt], by simp [go_sem, f5, hlt], by simp [go_sem, f6, hlt], by simp [go_sem, f7, hlt]⟩, (by first | exact Box.setTurn w b 2 _ | exact Turn.refl _ _)⟩
  · rw [show set1 r 97 u = { r with at_ := (min u 9223372036854775807 : Nat) } from rfl, show okU 97 u = decide (u ≤ 9223372036854775807) from rfl]
    by_cases hm : u ≤ 9223372036854775807
    · have hm' : ¬ (9223372036854775807 : Int) < (u : Int) := by omega
      have e : min u 9223372036854775807 = u := by omega
      rw [e]
      clear e
      go_enter Tryd.func96, Tryd.ntmps96; go_wp2_with fail; go_ret; refine ⟨ret_bool (by first | rfl | (simp; done) | (simp; omega) | (symm; simp; omega)), ⟨by simp [World.setCell]; omega, ⟨by simp [go_sem, c0, hlt], by simp [go_sem, c1, hlt], by simp [go_sem, c2, hlt], by simp [go_sem, c3, hlt], by simp [go_sem, c4, hlt], by simp [go_sem, c5, hlt], by simp [go_sem, c6, hlt], by simp [go_sem, c7, hlt]⟩, by simp [go_sem, f1, hlt], by simp [go_sem, f2, hlt], by simp [go_sem, f3, hlt], by simp [go_sem, f4, hlt], by simp [go_sem, f5, hlt], by simp [go_sem, f6, hlt], by simp [go_sem, f7, hlt]⟩, (by first | exact Box.setTurn w b 3 _ | exact Turn.refl _ _)⟩
    · have hm' : (9223372036854775807 : Int) < (u : Int) := by omega
      have e : min u 9223372036854775807 = 9223372036854775807 := by omega
      rw [e]
      clear e
      go_enter Tryd.func96, Tryd.ntmps96; go_wp2_with fail; go_ret; refine ⟨ret_bool (by first | rfl | (simp; done) | (simp; omega) | (symm; simp; omega)), ⟨by simp [World.setCell]; omega, ⟨by simp [go_sem, c0, hlt], by simp [go_sem, c1, hlt], by simp [go_sem, c2, hlt], by simp [go_sem, c3, hlt], by simp [go_sem, c4, hlt], by simp [go_sem, c5, hlt], by simp [go_sem, c6, hlt], by simp [go_sem, c7, hlt]⟩, by simp [go_sem, f1, hlt], by simp [go_sem, f2, hlt], by simp [go_sem, f3, hlt], by simp [go_sem, f4, hlt], by simp [go_sem, f5, hlt], by simp [go_sem, f6, hlt], by simp [go_sem, f7, hlt]⟩, (by first | exact Box.setTurn w b 3 _ | exact Turn.refl _ _)⟩
  · rw [show set1 r 110 u = { r with num := (min u 9223372036854775807 : Nat) } from rfl, show okU 110 u = decide (u ≤ 9223372036854775807) from rfl]
    by_cases hm : u ≤ 9223372036854775807
    · have hm' : ¬ (9223372036854775807 : Int) < (u : Int) := by omega
      have e : min u 9223372036854775807 = u := by omega
      rw [e]
      clear e
      go_enter Tryd.func96, Tryd.ntmps96; go_wp2_with fail; go_ret; refine ⟨ret_bool (by first | rfl | (simp; done) | (simp; omega) | (symm; simp; omega)), ⟨by simp [World.setCell]; omega, ⟨by simp [go_sem, c0, hlt], by simp [go_sem, c1, hlt], by simp [go_sem, c2, hlt], by simp [go_sem, c3, hlt], by simp [go_sem, c4, hlt], by simp [go_sem, c5, hlt], by simp [go_sem, c6, hlt], by simp [go_sem, c7, hlt]⟩, by simp [go_sem, f1, hlt], by simp [go_sem, f2, hlt], by simp [go_sem, f3, hlt], by simp [go_sem, f4, hlt], by simp [go_sem, f5, hlt], by simp [go_sem, f6, hlt], by simp [go_sem, f7, hlt]⟩, (by first | exact Box.setTurn w b 4 _ | exact Turn.refl _ _)⟩
    · have hm' : (9223372036854775807 : Int) < (u : Int) := by omega
      have e : min u 9223372036854775807 = 9223372036854775807 := by omega
      rw [e]
      clear e
      go_enter Tryd.func96, Tryd.ntmps96; go_wp2_with fail; go_ret; refine ⟨ret_bool (by first | rfl | (simp; done) | (simp; omega) | (symm; simp; omega)), ⟨by simp [World.setCell]; omega, ⟨by simp [go_sem, c0, hlt], by simp [go_sem, c1, hlt], by simp [go_sem, c2, hlt], by simp [go_sem, c3, hlt], by simp [go_sem, c4, hlt], by simp [go_sem, c5, hlt], by simp [go_sem, c6, hlt], by simp [go_sem, c7, hlt]⟩, by simp [go_sem, f1, hlt], by simp [go_sem, f2, hlt], by simp [go_sem, f3, hlt], by simp [go_sem, f4, hlt], by simp [go_sem, f5, hlt], by simp [go_sem, f6, hlt], by simp [go_sem, f7, hlt]⟩, (by first | exact Box.setTurn w b 4 _ | exact Turn.refl _ _)⟩
  · rw [show set1 r 99 u = { r with code := (min u 255 : Nat) } from rfl, show okU 99 u = decide (u ≤ 255) from rfl]
    by_cases hm : u ≤ 255
    · have hm' : ¬ (255 : Int) < (u : Int) := by omega
      have e : min u 255 = u := by omega
      rw [e]
      clear e
      go_enter Tryd.func96, Tryd.ntmps96; go_wp2_with fail; go_ret; refine ⟨ret_bool (by first | rfl | (simp; done) | (simp; omega) | (symm; simp; omega)), ⟨by simp [World.setCell]; omega, ⟨by simp [go_sem, c0, hlt], by simp [go_sem, c1, hlt], by simp [go_sem, c2, hlt], by simp [go_sem, c3, hlt], by simp [go_sem, c4, hlt], by simp [go_sem, c5, hlt], by simp [go_sem, c6, hlt], by simp [go_sem, c7, hlt]⟩, by simp [go_sem, f1, hlt], by simp [go_sem, f2, hlt], by simp [go_sem, f3, hlt], by simp [go_sem, f4, hlt], by simp [go_sem, f5, hlt], by simp [go_sem, f6, hlt], by simp [go_sem, f7, hlt]⟩, (by first | exact Box.setTurn w b 5 _ | exact Turn.refl _ _)⟩
    · have hm' : (255 : Int) < (u : Int) := by omega
      have e : min u 255 = 255 := by omega
      rw [e]
      clear e
      go_enter Tryd.func96, Tryd.ntmps96; go_wp2_with fail; go_ret; refine ⟨ret_bool (by first | rfl | (simp; done) | (simp; omega) | (symm; simp; omega)), ⟨by simp [World.setCell]; omega, ⟨by simp [go_sem, c0, hlt], by simp [go_sem, c1, hlt], by simp [go_sem, c2, hlt], by simp [go_sem, c3, hlt], by simp [go_sem, c4, hlt], by simp [go_sem, c5, hlt], by simp [go_sem, c6, hlt], by simp [go_sem, c7, hlt]⟩, by simp [go_sem, f1, hlt], by simp [go_sem, f2, hlt], by simp [go_sem, f3, hlt], by simp [go_sem, f4, hlt], by simp [go_sem, f5, hlt], by simp [go_sem, f6, hlt], by simp [go_sem, f7, hlt]⟩, (by first | exact Box.setTurn w b 5 _ | exact Turn.refl _ _)⟩
  · rw [show set1 r 121 u = { r with yes := decide (u = 1) } from rfl, show okU 121 u = decide (u ≤ 1) from rfl]
    by_cases hm : u = 1
    · subst hm
      go_enter Tryd.func96, Tryd.ntmps96; go_wp2_with fail; go_ret; refine ⟨ret_bool (by first | rfl | (simp; done) | (simp; omega) | (symm; simp; omega)), ⟨by simp [World.setCell]; omega, ⟨by simp [go_sem, c0, hlt], by simp [go_sem, c1, hlt], by simp [go_sem, c2, hlt], by simp [go_sem, c3, hlt], by simp [go_sem, c4, hlt], by simp [go_sem, c5, hlt], by simp [go_sem, c6, hlt], by simp [go_sem, c7, hlt]⟩, by simp [go_sem, f1, hlt], by simp [go_sem, f2, hlt], by simp [go_sem, f3, hlt], by simp [go_sem, f4, hlt], by simp [go_sem, f5, hlt], by simp [go_sem, f6, hlt], by simp [go_sem, f7, hlt]⟩, (by first | exact Box.setTurn w b 6 _ | exact Turn.refl _ _)⟩
    · have hm' : ((u : Int) == 1) = false := by rw [beq_eq_false_iff_ne]; omega
      rw [decide_eq_false hm]
      go_enter Tryd.func96, Tryd.ntmps96; go_wp2_with fail; go_ret; refine ⟨ret_bool (by first | rfl | (simp; done) | (simp; omega) | (symm; simp; omega)), ⟨by simp [World.setCell]; omega, ⟨by simp [go_sem, c0, hlt], by simp [go_sem, c1, hlt], by simp [go_sem, c2, hlt], by simp [go_sem, c3, hlt], by simp [go_sem, c4, hlt], by simp [go_sem, c5, hlt], by simp [go_sem, c6, hlt], by simp [go_sem, c7, hlt]⟩, by simp [go_sem, f1, hlt], by simp [go_sem, f2, hlt], by simp [go_sem, f3, hlt], by simp [go_sem, f4, hlt], by simp [go_sem, f5, hlt], by simp [go_sem, f6, hlt], by simp [go_sem, f7, hlt]⟩, (by first | exact Box.setTurn w b 6 _ | exact Turn.refl _ _)⟩
end Go.Proofs.YtdmpopdacbdnlaaDoor
