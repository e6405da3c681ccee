/- lookoutref07.Has, word, most, number, with: contracts. -/
import Derived.Test.YtdmpopdacbdnlaaDoorRecNum
namespace Go.Proofs.YtdmpopdacbdnlaaDoor
open Go.RowKit
set_option linter.unusedVariables false
set_option linter.unusedSimpArgs false
set_option maxHeartbeats 2000000
set_option maxRecDepth 20000
theorem rhas_any (k f : Nat) (hk : k < 256) (hf : 1 ≤ f) (hf' : f ≤ 7) (w : World) :
    Calls Tryd.prog 83 #[.int .u8 (k : Int), .int .i64 (f : Int)] w fun e w' => e = .returned (.bool (hasF k f)) ∧ w = w' := by
  have hf7 : f = 1 ∨ f = 2 ∨ f = 3 ∨ f = 4 ∨ f = 5 ∨ f = 6 ∨ f = 7 := by omega
  rcases hf7 with rfl | rfl | rfl | rfl | rfl | rfl | rfl
  all_goals
    clear hf hf'
    go_enter Tryd.func83, Tryd.ntmps83
    go_wp2_with fail
    all_goals (go_ret; exact ⟨ret_bool (by unfold hasF; first | (rw [Bool.eq_iff_iff]; simp; omega) | (simp; omega) | (simp; done)), rfl⟩)
/-- a record's word -/
theorem rword_any (k : UInt8) (h : 17 ≤ k.toNat) (h' : k.toNat ≤ 32) (w : World) :
    Calls Tryd.prog 90 #[.int .u8 (k.toNat : Int)] w fun e w' => e = .returned (strV (wordOf k)) ∧ w = w' := by
  rcases kind_split k h h' with h1 | h1 | h1 | h1 | h1 | h1 | h1 | h1 | h1 | h1 | h1 | h1 | h1 | h1 | h1 | h1
  all_goals
    subst h1
    clear h h'
    go_enter Tryd.func90, Tryd.ntmps90
    go_wp2_with fail
    go_ret
    exact ⟨rfl, rfl⟩
def mostR (c : UInt8) : Nat := if c = 115 then 7 else if c = 113 then 18446744073709551615 else if c = 99 then 255 else if c = 121 then 1 else 9223372036854775807
def let6 (c : UInt8) : Prop := c = 115 ∨ c = 113 ∨ c = 97 ∨ c = 110 ∨ c = 99 ∨ c = 121
theorem rmost_any (c : UInt8) (hc : let6 c) (w : World) :
    Calls Tryd.prog 101 #[.int .i64 (numOf c : Int)] w fun e w' => e = .returned (.int .u64 (mostR c : Int)) ∧ w = w' := by
  rcases hc with rfl | rfl | rfl | rfl | rfl | rfl
  all_goals
    go_enter Tryd.func101, Tryd.ntmps101
    go_wp2_with fail
    go_ret
    exact ⟨rfl, rfl⟩
theorem okU_most (c : UInt8) (u : Nat) (hu : u ≤ 18446744073709551615) (hc : let6 c) : okU c u = decide (u ≤ mostR c) := by
  rcases hc with rfl | rfl | rfl | rfl | rfl | rfl
  all_goals (unfold okU mostU mostR; simp <;> omega)
theorem rnumber_any (r : Rec) (c : UInt8) (hc : let6 c) (hp : r.pos) (w : World) :
    Calls Tryd.prog 93 #[recA r, .int .i64 (numOf c : Int)] w fun e w' => e = .returned (.int .u64 (numU r c : Int)) ∧ Below w.heap.size w w' := by
  obtain ⟨⟨h1, h1'⟩, h2, ⟨h3, h3'⟩, ⟨h4, h4'⟩, ⟨h5, h5'⟩⟩ := hp
  have w1 : IntKind.u64.wrap r.source = r.source := IntWalk.u64_in _ (by omega)
  have w3 : IntKind.u64.wrap r.at_ = r.at_ := IntWalk.u64_in _ (by omega)
  have w4 : IntKind.u64.wrap r.num = r.num := IntWalk.u64_in _ (by omega)
  have w5 : IntKind.u64.wrap r.code = r.code := IntWalk.u64_in _ (by omega)
  unfold recA
  rcases hc with rfl | rfl | rfl | rfl | rfl | rfl
  all_goals
    unfold numU
    simp only [if_true, reduceIte, (show ((113 : UInt8) = 115) = False by decide), (show ((97 : UInt8) = 115) = False by decide), (show ((97 : UInt8) = 113) = False by decide), (show ((110 : UInt8) = 115) = False by decide), (show ((110 : UInt8) = 113) = False by decide), (show ((110 : UInt8) = 97) = False by decide), (show ((99 : UInt8) = 115) = False by decide), (show ((99 : UInt8) = 113) = False by decide), (show ((99 : UInt8) = 97) = False by decide), (show ((99 : UInt8) = 110) = False by decide), (show ((121 : UInt8) = 115) = False by decide), (show ((121 : UInt8) = 113) = False by decide), (show ((121 : UInt8) = 97) = False by decide), (show ((121 : UInt8) = 110) = False by decide), (show ((121 : UInt8) = 99) = False by decide), if_false]
  rotate_right
  · cases r.yes
    all_goals
      go_enter Tryd.func93, Tryd.ntmps93
      go_wp2_with fail
      go_ret
      exact ⟨rfl, (by repeat (first | with_reducible exact Below.refl _ _ | with_reducible refine Below.drew ?_ | with_reducible refine Below.alloc ?_ (by (try simp) <;> omega) _ | with_reducible refine Below.setCell ?_ (by (try simp) <;> omega) _))⟩
  all_goals
    go_enter Tryd.func93, Tryd.ntmps93
    go_wp2_with fail
    go_ret
    exact ⟨ret_int (by omega), (by repeat (first | with_reducible exact Below.refl _ _ | with_reducible refine Below.drew ?_ | with_reducible refine Below.alloc ?_ (by (try simp) <;> omega) _ | with_reducible refine Below.setCell ?_ (by (try simp) <;> omega) _))⟩
theorem rwith_any (r : Rec) (c : UInt8) (hc : let6 c) (u : Nat) (hu : u ≤ mostR c) (w : World) :
    Calls Tryd.prog 102 #[recA r, .int .i64 (numOf c : Int), .int .u64 (u : Int)] w fun e w' => e = .returned (recA (set1 r c u)) ∧ Below w.heap.size w w' := by
  unfold recA
  rcases hc with rfl | rfl | rfl | rfl | rfl | rfl
  · have hu' : u ≤ 7 := hu
    have e : set1 r 115 u = { r with source := (u : Int) } := by
      show ({ r with source := ((min u 7 : Nat) : Int) } : Rec) = _
      rw [show min u 7 = u by omega]
    rw [e]
    clear e hu
    have hw : IntKind.i64.wrap (u : Int) = (u : Int) := IntWalk.i64_in _ (by omega)
    go_enter Tryd.func102, Tryd.ntmps102
    go_wp2_with fail
    exact bodyPost_ret (v := .agg #[.int .u8 (r.kind.toNat : Int), .int .i64 (u : Int), .int .u64 (r.seq : Int), .int .i64 r.at_, .int .i64 r.num, .int .i64 r.code, .bool r.yes, .string ⟨r.text.toArray⟩]) (by simp [results, Tryd.results102, go_sem]) rfl ⟨rfl, (by repeat (first | with_reducible exact Below.refl _ _ | with_reducible refine Below.drew ?_ | with_reducible refine Below.alloc ?_ (by (try simp) <;> omega) _ | with_reducible refine Below.setCell ?_ (by (try simp) <;> omega) _))⟩
  · have hu' : u ≤ 18446744073709551615 := hu
    have e : set1 r 113 u = { r with seq := u } := rfl
    rw [e]
    clear e hu
    go_enter Tryd.func102, Tryd.ntmps102
    go_wp2_with fail
    exact bodyPost_ret (v := .agg #[.int .u8 (r.kind.toNat : Int), .int .i64 r.source, .int .u64 (u : Int), .int .i64 r.at_, .int .i64 r.num, .int .i64 r.code, .bool r.yes, .string ⟨r.text.toArray⟩]) (by simp [results, Tryd.results102, go_sem]) rfl ⟨rfl, (by repeat (first | with_reducible exact Below.refl _ _ | with_reducible refine Below.drew ?_ | with_reducible refine Below.alloc ?_ (by (try simp) <;> omega) _ | with_reducible refine Below.setCell ?_ (by (try simp) <;> omega) _))⟩
  · have hu' : u ≤ 9223372036854775807 := hu
    have e : set1 r 97 u = { r with at_ := (u : Int) } := by
      show ({ r with at_ := ((min u 9223372036854775807 : Nat) : Int) } : Rec) = _
      rw [show min u 9223372036854775807 = u by omega]
    rw [e]
    clear e hu
    have hw : IntKind.i64.wrap (u : Int) = (u : Int) := IntWalk.i64_in _ (by omega)
    go_enter Tryd.func102, Tryd.ntmps102
    go_wp2_with fail
    exact bodyPost_ret (v := .agg #[.int .u8 (r.kind.toNat : Int), .int .i64 r.source, .int .u64 (r.seq : Int), .int .i64 (u : Int), .int .i64 r.num, .int .i64 r.code, .bool r.yes, .string ⟨r.text.toArray⟩]) (by simp [results, Tryd.results102, go_sem]) rfl ⟨rfl, (by repeat (first | with_reducible exact Below.refl _ _ | with_reducible refine Below.drew ?_ | with_reducible refine Below.alloc ?_ (by (try simp) <;> omega) _ | with_reducible refine Below.setCell ?_ (by (try simp) <;> omega) _))⟩
  · have hu' : u ≤ 9223372036854775807 := hu
    have e : set1 r 110 u = { r with num := (u : Int) } := by
      show ({ r with num := ((min u 9223372036854775807 : Nat) : Int) } : Rec) = _
      rw [show min u 9223372036854775807 = u by omega]
    rw [e]
    clear e hu
    have hw : IntKind.i64.wrap (u : Int) = (u : Int) := IntWalk.i64_in _ (by omega)
    go_enter Tryd.func102, Tryd.ntmps102
    go_wp2_with fail
    exact bodyPost_ret (v := .agg #[.int .u8 (r.kind.toNat : Int), .int .i64 r.source, .int .u64 (r.seq : Int), .int .i64 r.at_, .int .i64 (u : Int), .int .i64 r.code, .bool r.yes, .string ⟨r.text.toArray⟩]) (by simp [results, Tryd.results102, go_sem]) rfl ⟨rfl, (by repeat (first | with_reducible exact Below.refl _ _ | with_reducible refine Below.drew ?_ | with_reducible refine Below.alloc ?_ (by (try simp) <;> omega) _ | with_reducible refine Below.setCell ?_ (by (try simp) <;> omega) _))⟩
  · have hu' : u ≤ 255 := hu
    have e : set1 r 99 u = { r with code := (u : Int) } := by
      show ({ r with code := ((min u 255 : Nat) : Int) } : Rec) = _
      rw [show min u 255 = u by omega]
    rw [e]
    clear e hu
    have hw : IntKind.i64.wrap (u : Int) = (u : Int) := IntWalk.i64_in _ (by omega)
    go_enter Tryd.func102, Tryd.ntmps102
    go_wp2_with fail
    exact bodyPost_ret (v := .agg #[.int .u8 (r.kind.toNat : Int), .int .i64 r.source, .int .u64 (r.seq : Int), .int .i64 r.at_, .int .i64 r.num, .int .i64 (u : Int), .bool r.yes, .string ⟨r.text.toArray⟩]) (by simp [results, Tryd.results102, go_sem]) rfl ⟨rfl, (by repeat (first | with_reducible exact Below.refl _ _ | with_reducible refine Below.drew ?_ | with_reducible refine Below.alloc ?_ (by (try simp) <;> omega) _ | with_reducible refine Below.setCell ?_ (by (try simp) <;> omega) _))⟩
  · have hu' : u ≤ 1 := hu
    have e : set1 r 121 u = { r with yes := decide (u = 1) } := rfl
    rw [e]
    clear e hu
    by_cases h1 : u = 1
    · subst h1
      go_enter Tryd.func102, Tryd.ntmps102
      go_wp2_with fail
      exact bodyPost_ret (v := .agg #[.int .u8 (r.kind.toNat : Int), .int .i64 r.source, .int .u64 (r.seq : Int), .int .i64 r.at_, .int .i64 r.num, .int .i64 r.code, .bool true, .string ⟨r.text.toArray⟩]) (by simp [results, Tryd.results102, go_sem]) rfl ⟨rfl, (by repeat (first | with_reducible exact Below.refl _ _ | with_reducible refine Below.drew ?_ | with_reducible refine Below.alloc ?_ (by (try simp) <;> omega) _ | with_reducible refine Below.setCell ?_ (by (try simp) <;> omega) _))⟩
    · have h2 : ((u : Int) == 1) = false := by rw [beq_eq_false_iff_ne]; omega
      rw [decide_eq_false h1]
      go_enter Tryd.func102, Tryd.ntmps102
      go_wp2_with fail
      exact bodyPost_ret (v := .agg #[.int .u8 (r.kind.toNat : Int), .int .i64 r.source, .int .u64 (r.seq : Int), .int .i64 r.at_, .int .i64 r.num, .int .i64 r.code, .bool false, .string ⟨r.text.toArray⟩]) (by simp [results, Tryd.results102, go_sem]) rfl ⟨rfl, (by repeat (first | with_reducible exact Below.refl _ _ | with_reducible refine Below.drew ?_ | with_reducible refine Below.alloc ?_ (by (try simp) <;> omega) _ | with_reducible refine Below.setCell ?_ (by (try simp) <;> omega) _))⟩
end Go.Proofs.YtdmpopdacbdnlaaDoor
