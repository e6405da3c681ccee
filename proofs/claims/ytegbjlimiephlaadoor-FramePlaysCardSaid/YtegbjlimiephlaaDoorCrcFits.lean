/- The contracts of package crc: Fits. -/
import Derived.Test.YtegbjlimiephlaaDoorCrcFns
import Derived.Deep.RegionWith
import Derived.Deep.RegionHeld3
namespace Go.Proofs.YtegbjlimiephlaaDoor
open Go.RowKit
set_option linter.unusedVariables false
set_option linter.unusedSimpArgs false

theorem eq3d (q : Nat) (w : World) (a b c d e f : Int) : (Op.equalIn (q + 2) 86 (.agg #[.int .u8 a, .int .u8 b, .int .u8 c]) (.agg #[.int .u8 d, .int .u8 e, .int .u8 f])).run Tryd.prog w = .ok (a == d && b == e && c == f) w := by
  have hs : ∀ w, (sizeOf 5).run Tryd.prog w = .ok 1 w := fun w => by kernel_rfl
  have h0 : ∀ w (x y z : Value), (part 5 #[x, y, z] 0).run Tryd.prog w = .ok x w := fun w x y z => by kernel_rfl
  have h1 : ∀ w (x y z : Value), (part 5 #[x, y, z] 1).run Tryd.prog w = .ok y w := fun w x y z => by kernel_rfl
  have h2 : ∀ w (x y z : Value), (part 5 #[x, y, z] 2).run Tryd.prog w = .ok z w := fun w x y z => by kernel_rfl
  have hi : ∀ w x y, (Op.equalIn (q + 1) 5 (.int .u8 x) (.int .u8 y)).run Tryd.prog w = .ok (x == y) w := fun w x y => run_equalIn_int w q 5 .u8 .u8 x y Tryd.underlying5
  have hu : (Op.equalIn (q + 2) 86 (.agg #[.int .u8 a, .int .u8 b, .int .u8 c]) (.agg #[.int .u8 d, .int .u8 e, .int .u8 f])).run Tryd.prog w = (do
      for i in [0:3] do
        if !(← Op.equalIn (q + 1) 5 (← part 5 #[.int .u8 a, .int .u8 b, .int .u8 c] (i * 1)) (← part 5 #[.int .u8 d, .int .u8 e, .int .u8 f] (i * 1))) then return false
      pure true : Sem Bool).run Tryd.prog w := by
    rw [Op.equalIn]
    simp only [Sem.run_bind, run_underlying Tryd.underlying86, Result.andThen_ok, hs]
  rw [hu]
  simp only [Std.Legacy.Range.forIn_eq_forIn_range', Std.Legacy.Range.size]
  simp only [show (3 - 0 + 1 - 1) / 1 = 3 from rfl, show List.range' 0 3 1 = [0, 1, 2] from rfl, List.forIn_cons, List.forIn_nil]
  simp only [Sem.run_bind, h0, h1, h2, hi, Result.andThen_ok, Nat.mul_one]
  cases ha : a == d <;> cases hb : b == e <;> cases hc : c == f <;> simp [Sem.run_pure, h0, h1, h2, hi, ha, hb, hc]
theorem eq3 (w : World) (a b c d e f : Int) : (Op.equalIn 10000 86 (.agg #[.int .u8 a, .int .u8 b, .int .u8 c]) (.agg #[.int .u8 d, .int .u8 e, .int .u8 f])).run Tryd.prog w = .ok (a == d && b == e && c == f) w := eq3d 9998 w a b c d e f
theorem crc_fits_short (a : Option Addr) (len cap : Nat) (w : World) (h : len < 3) :
    Calls Tryd.prog 42 #[.slice a len cap] w fun e w' => e = .returned (.bool false) ∧ w = w' := by
  go_enter Tryd.func42, Tryd.ntmps42
  go_wp2_with fail
  go_ret
  exact ⟨rfl, rfl⟩

set_option maxHeartbeats 4000000 in
theorem crc_fits_core (b off n cap : Nat) (p : List UInt8) (x y z : Int) (p0 p1 p2 : UInt8) (w : World) (hm : n + 3 ≤ 9223372036854775807) (hcap : n + 3 ≤ cap) (hT : Tab w) (hrow : RowB w (some ⟨b, off, none⟩) n cap p)
    (hp : Hid (Crc.put (Crc.sum p).toNat = [p0, p1, p2]))
    (hb : b < w.heap.size) (c0 : w.cell? ⟨b, off + n, none⟩ = some (.int .u8 x)) (c1 : w.cell? ⟨b, off + n + 1, none⟩ = some (.int .u8 y)) (c2 : w.cell? ⟨b, off + n + 2, none⟩ = some (.int .u8 z)) :
    Calls Tryd.prog 42 #[.slice (some ⟨b, off, none⟩) (n + 3) cap] w fun e w' => e = .returned (.bool (x == (p0.toNat : Int) && y == (p1.toNat : Int) && z == (p2.toNat : Int))) ∧ Below w.heap.size w w' := by
  have ha : ∀ (W : World) (q : Option Addr) (c : Nat), (Instr.arrayAt 86 (.slice q 3 c)).run Tryd.prog W = .ok (.pointer q) W := fun W q c => run_arrayAt W _ _ 3 q 3 c Tryd.underlying86 (Nat.le_refl _)
  have he := fun W : World => eq3 W
  have i0 : (0 : Int) ≤ (n : Int) := by omega
  have i1 : (n : Int) ≤ (n : Int) + 3 := by omega
  have i2 : (n : Int) + 3 ≤ (cap : Int) := by omega
  have i3 : ¬ cap = n := by omega
  have i4 : (n : Int) ≤ (cap : Int) := by omega
  have hs := (Crc.sum p).isLt
  generalize hS : (Crc.sum p).toNat = S at *
  have HS := Lib.hid hS; clear hS
  go_enter Tryd.func42, Tryd.ntmps42
  go_wp2_with fail
  go_region_with    (first | (go_at_call 28; refine (crc_sum _ _ _ p _ (hT.below ((Below.refl _ _).drew)) (hrow.below ((Below.refl _ _).drew))).mono ?_; rintro e w' ⟨rfl, rfl⟩; rw [HS.out]) | (go_at_call 27; refine (crc_put _ (by omega) _).mono ?_; rintro e w1 ⟨rfl, hr, hb1, hz1⟩; rw [hp.out] at hr; obtain ⟨hc1, hf1⟩ := bcell hb1; obtain ⟨q0, q1, q2⟩ : w1.cell? ⟨w.heap.size, 0, none⟩ = some (.int .u8 (p0.toNat : Int)) ∧ w1.cell? ⟨w.heap.size, 1, none⟩ = some (.int .u8 (p1.toNat : Int)) ∧ w1.cell? ⟨w.heap.size, 2, none⟩ = some (.int .u8 (p2.toNat : Int)) := hr.three_at; clear hr; have q3 := (hc1 _ _ hb).trans c0; have q4 := (hc1 _ _ hb).trans c1; have q5 := (hc1 _ _ hb).trans c2; clear hc1))
  all_goals go_wp2
  all_goals (go_ret; exact ⟨rfl, (by repeat (first | with_reducible exact Below.refl _ _ | with_reducible refine Below.trans ?_ (Below.mono hb9 (by (try simp) <;> omega)) | with_reducible refine Below.trans ?_ (Below.mono hb8 (by (try simp) <;> omega)) | with_reducible refine Below.trans ?_ (Below.mono hb7 (by (try simp) <;> omega)) | with_reducible refine Below.trans ?_ (Below.mono hb6 (by (try simp) <;> omega)) | with_reducible refine Below.trans ?_ (Below.mono hb5 (by (try simp) <;> omega)) | with_reducible refine Below.trans ?_ (Below.mono hb4 (by (try simp) <;> omega)) | with_reducible refine Below.trans ?_ (Below.mono hb3 (by (try simp) <;> omega)) | with_reducible refine Below.trans ?_ (Below.mono hb2 (by (try simp) <;> omega)) | with_reducible refine Below.trans ?_ (Below.mono hb1 (by (try simp) <;> omega)) | with_reducible refine Below.drew ?_ | with_reducible refine Below.alloc ?_ (by (try simp) <;> omega) _ | with_reducible refine Below.setCell ?_ (by (try simp) <;> omega) _))⟩)

end Go.Proofs.YtegbjlimiephlaaDoor
