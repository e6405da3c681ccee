/- The contracts of package mark: how far a mark may go. -/
import Derived.Test.YtkdekdogfplbmaaMarkFns
import Derived.Test.YtkdekdogfplbmaaSatFns
namespace Go.Proofs.Ytkdekdogfplbmaa
open Go.RowKit
set_option linter.unusedVariables false
set_option linter.unusedSimpArgs false

theorem eq2d (q : Nat) (w : World) (a b d e : Int) : (Op.equalIn (q + 2) 66 (.agg #[.int .i64 a, .int .i64 b]) (.agg #[.int .i64 d, .int .i64 e])).run Try.prog w = .ok (a == d && b == e) w := by
  have hs : ∀ w, (sizeOf 2).run Try.prog w = .ok 1 w := fun w => by kernel_rfl
  have h0 : ∀ w (x y : Value), (part 2 #[x, y] 0).run Try.prog w = .ok x w := fun w x y => by kernel_rfl
  have h1 : ∀ w (x y : Value), (part 2 #[x, y] 1).run Try.prog w = .ok y w := fun w x y => by kernel_rfl
  have hi : ∀ w x y, (Op.equalIn (q + 1) 2 (.int .i64 x) (.int .i64 y)).run Try.prog w = .ok (x == y) w := fun w x y => run_equalIn_int w q 2 .i64 .i64 x y Try.underlying2
  have hu : (Op.equalIn (q + 2) 66 (.agg #[.int .i64 a, .int .i64 b]) (.agg #[.int .i64 d, .int .i64 e])).run Try.prog w = (do
      for i in [0:2] do
        if !(← Op.equalIn (q + 1) 2 (← part 2 #[.int .i64 a, .int .i64 b] (i * 1)) (← part 2 #[.int .i64 d, .int .i64 e] (i * 1))) then return false
      pure true : Sem Bool).run Try.prog w := by
    rw [Op.equalIn]
    simp only [Sem.run_bind, run_underlying Try.underlying66, Result.andThen_ok, hs]
  rw [hu]
  simp only [Std.Legacy.Range.forIn_eq_forIn_range', Std.Legacy.Range.size]
  simp only [show (2 - 0 + 1 - 1) / 1 = 2 from rfl, show List.range' 0 2 1 = [0, 1] from rfl, List.forIn_cons, List.forIn_nil]
  simp only [Sem.run_bind, h0, h1, hi, Result.andThen_ok, Nat.mul_one]
  cases ha : a == d <;> cases hb : b == e <;> simp [Sem.run_pure, h0, h1, hi, ha, hb]
theorem eq2 (w : World) (a b d e : Int) : (Op.equalIn 10000 66 (.agg #[.int .i64 a, .int .i64 b]) (.agg #[.int .i64 d, .int .i64 e])).run Try.prog w = .ok (a == d && b == e) w := eq2d 9998 w a b d e

/-- What stands in the two cells of 'kept': nothing yet, or the least number. -/
def keptF (o : Option Int) : Int := match o with | none => 0 | some _ => 1
def keptN (o : Option Int) : Int := match o with | none => 0 | some m => m
def least (o : Option Int) (n : Int) : Option Int := match o with | none => some n | some m => some (if n < m then n else m)
structure Kept (w : World) (B C : Nat) (o : Option Int) : Prop where
  k0 : w.cell? ⟨B, 0, none⟩ = some (.int .i64 (keptF o))
  k1 : w.cell? ⟨B, 1, none⟩ = some (.int .i64 (keptN o))
  f0 : w.frozen? ⟨B, 0, none⟩ = false
  f1 : w.frozen? ⟨B, 1, none⟩ = false
  n0 : w.cell? ⟨C, 0, none⟩ = some (.int .i64 0)
  n1 : w.cell? ⟨C, 1, none⟩ = some (.int .i64 0)

theorem keep_any (n : Int) (B C : Nat) (hCB : C < B) (o : Option Int) (w : World) (hk : Kept w B C o) :
    Calls Try.prog 29 #[.int .i64 n, .pointer (some ⟨B, 0, none⟩), .pointer (some ⟨C, 0, none⟩)] w fun e w' => e = .returned (.tuple #[]) ∧ Kept w' B C (least o n) ∧ Below B w w' ∧ w'.heap.size = w.heap.size := by
  have he := fun W : World => eq2 W
  obtain ⟨k0, k1, f0, f1, n0, n1⟩ := hk
  cases o with
  | none =>
    simp only [keptF, keptN] at k0 k1
    go_enter Try.func29, Try.ntmps29
    go_wp2_with fail
    go_end0
    have hb : Below B w ((w.setCell ⟨B, 0, none⟩ (.int .i64 1)).setCell ⟨B, 1, none⟩ (.int .i64 n)) := ((Below.refl B w).setCell (Nat.le_refl _) _).setCell (Nat.le_refl _) _
    exact ⟨rfl, ⟨by simp [go_sem, least, keptF, k0, k1], by simp [go_sem, least, keptN, k0, k1], by simp [go_sem, f0], by simp [go_sem, f1], (hb.cell (p := ⟨C, 0, none⟩) hCB).trans n0, (hb.cell (p := ⟨C, 1, none⟩) hCB).trans n1⟩, hb, by simp⟩
  | some m =>
    simp only [keptF, keptN] at k0 k1
    by_cases hlt : n < m
    · go_enter Try.func29, Try.ntmps29
      go_wp2_with fail
      go_end0
      have hb : Below B w ((w.setCell ⟨B, 0, none⟩ (.int .i64 1)).setCell ⟨B, 1, none⟩ (.int .i64 n)) := ((Below.refl B w).setCell (Nat.le_refl _) _).setCell (Nat.le_refl _) _
      exact ⟨rfl, ⟨by simp [go_sem, least, keptF, k0, k1], by simp [go_sem, least, keptN, k0, k1, hlt], by simp [go_sem, f0], by simp [go_sem, f1], (hb.cell (p := ⟨C, 0, none⟩) hCB).trans n0, (hb.cell (p := ⟨C, 1, none⟩) hCB).trans n1⟩, hb, by simp⟩
    · go_enter Try.func29, Try.ntmps29
      go_wp2_with fail
      go_end0
      refine ⟨rfl, ⟨by simp [least, keptF, k0], by simp [least, keptN, k1]; omega, f0, f1, n0, n1⟩, Below.refl _ _, rfl⟩
end Go.Proofs.Ytkdekdogfplbmaa
