/- The contracts of package ledger: New, Tell, End, Said, Done. -/
import Derived.Test.YtkdekdogfplbmaaDoorRows
import Derived.Test.YtkdekdogfplbmaaDoorLdMath
import Derived.Test.YtkdekdogfplbmaaDoorSatSub
import Derived.BigQuiet
import Derived.Deep.QuietTactic
import Derived.WalkLawsBesides
import Derived.WalkSpells
import Derived.Maps.OwnOps
import Derived.Carry
namespace Go.Proofs.YtkdekdogfplbmaaDoor
open Go.RowKit
set_option linter.unusedVariables false
set_option linter.unusedSimpArgs false
set_option maxRecDepth 20000

theorem zeroB : ∀ w, (zeroValue 4).run Tryd.prog w = .ok (.bool false) w := fun w => by kernel_rfl
def MapL (w : World) (b n : Nat) (m : Int → Option Bool) : Prop := MapB Tryd.prog 2 4 w b n m
theorem infoRec : (Tryd.prog.info? 32).map (fun i => (i.zero, i.size, i.bytes)) = some (some (.agg #[.int .u8 0, .int .i64 0, .int .u64 0, .int .i64 0, .int .i64 0, .int .i64 0, .bool false, .string ByteArray.empty]), 8, 72) := by kernel_rfl
/-- A ledger at g, whose map lies at b and has had n entries at most. -/
structure Led (w : World) (g b n : Nat) (s : LS) : Prop where
  c0 : w.cell? ⟨g, 0, none⟩ = some (.int .i64 s.patience)
  c1 : w.cell? ⟨g, 1, none⟩ = some (.int .i64 s.done)
  c2 : w.cell? ⟨g, 2, none⟩ = some (.map (some b))
  f1 : w.frozen? ⟨g, 1, none⟩ = false
  m : MapL w b n s.said
  ne : b ≠ g
  lt : g < w.heap.size
  rg : -9223372036854775808 ≤ s.done ∧ s.done ≤ 9223372036854775807
  rp : -9223372036854775808 ≤ s.patience ∧ s.patience ≤ 9223372036854775807
theorem Led.turn {S : Nat → Prop} {w w' : World} {g b n : Nat} {s : LS} (h : Led w g b n s) (t : Turn S w w') (hg : ¬ S g) (hb : ¬ S b) : Led w' g b n s :=
  ⟨(t.cell (p := ⟨g, 0, none⟩) h.lt hg).trans h.c0, (t.cell (p := ⟨g, 1, none⟩) h.lt hg).trans h.c1, (t.cell (p := ⟨g, 2, none⟩) h.lt hg).trans h.c2, (t.frozen (p := ⟨g, 1, none⟩) h.lt hg).trans h.f1, MapB.turn h.m t hb, h.ne, Nat.lt_of_lt_of_le h.lt t.size, h.rg, h.rp⟩
theorem Led.below {w w' : World} {g b n : Nat} {s : LS} (h : Led w g b n s) (hb : Below w.heap.size w w') : Led w' g b n s := h.turn (S := fun _ => False) (Turn.ofBelow hb rfl) (fun h => h) (fun h => h)
theorem Led.mono {w : World} {g b n n' : Nat} {s : LS} (h : Led w g b n s) (hn : n ≤ n') : Led w g b n' s := ⟨h.c0, h.c1, h.c2, h.f1, MapB.mono h.m hn, h.ne, h.lt, h.rg, h.rp⟩
theorem ledger_new (p : Int) (hp : -9223372036854775808 ≤ p ∧ p ≤ 9223372036854775807) (w : World) : Calls Tryd.prog 5 #[.int .i64 p] w fun e w' => e = .returned (.pointer (some ⟨w.heap.size + 1, 0, none⟩)) ∧ Led w' (w.heap.size + 1) w.heap.size 0 (LS.new p) ∧ Below w.heap.size w w' ∧ w.heap.size + 1 < w'.heap.size := by
  have hmm := @run_makeMap Tryd.prog
  go_enter Tryd.func5, Tryd.ntmps5
  go_wp2_with fail
  go_ret
  refine ⟨rfl, ⟨by simp [go_sem, LS.new], by simp [go_sem, LS.new], by simp [go_sem], by simp [go_sem], ?_, by omega, by simp, by simp [LS.new], hp⟩, (by repeat (first | with_reducible exact Below.refl _ _ | with_reducible refine Below.drew ?_ | with_reducible refine Below.alloc ?_ (by (try simp) <;> omega) _ | with_reducible refine Below.setCell ?_ (by (try simp) <;> omega) _)), by simp⟩
  exact MapB.turn (S := fun _ => False) (MapB.made w) (Turn.ofBelow ((Below.refl _ _).alloc (Nat.le_refl _) _) rfl) (fun h => h)
theorem ledger_done (g b n : Nat) (s : LS) (w : World) (h : Led w g b n s) : Calls Tryd.prog 9 #[.pointer (some ⟨g, 0, none⟩)] w fun e w' => e = .returned (.int .i64 s.done) ∧ w = w' := by
  have c1 := h.c1
  go_enter Tryd.func9, Tryd.ntmps9
  go_wp2_with fail
  go_ret
  exact ⟨rfl, rfl⟩
theorem ledger_done_none (w : World) : Calls Tryd.prog 9 #[.pointer none] w fun e w' => e = .returned (.int .i64 (-1)) ∧ w = w' := by
  go_enter Tryd.func9, Tryd.ntmps9
  go_wp2_with fail
  go_ret
  exact ⟨rfl, rfl⟩
theorem ledger_said_none (z : Int) (w : World) : Calls Tryd.prog 8 #[.pointer none, .int .i64 z] w fun e w' => e = .returned (.tuple #[.bool false, .bool false]) ∧ w = w' := by
  go_enter Tryd.func8, Tryd.ntmps8
  go_wp2_with fail
  go_ret2
  exact ⟨rfl, rfl⟩
theorem ledger_said (g b n : Nat) (s : LS) (z : Int) (hz : -9223372036854775808 ≤ z ∧ z ≤ 9223372036854775807) (w : World) (h : Led w g b n s) : Calls Tryd.prog 8 #[.pointer (some ⟨g, 0, none⟩), .int .i64 z] w fun e w' => e = .returned (.tuple #[.bool ((s.said z).getD false), .bool (s.said z).isSome]) ∧ w = w' := by
  have c2 := h.c2
  have hM := h.m
  clear h
  go_enter Tryd.func8, Tryd.ntmps8
  go_wp2_with (at_lookup; refine map_look 2 4 39 Tryd.underlying2 Tryd.underlying4 Tryd.underlying39 zeroB rfl _ _ rfl b n s.said rfl hM z hz rfl ?_)
  go_ret2
  exact ⟨rfl, rfl⟩
theorem ledger_tell_none (a c d : Int) (y : Bool) (w : World) : Calls Tryd.prog 10 #[.pointer none, .int .i64 a, .int .i64 c, .int .i64 d, .bool y] w fun e w' => e = .returned (.slice none 0 0) ∧ w = w' := by
  go_enter Tryd.func10, Tryd.ntmps10
  go_wp2_with fail
  go_ret
  exact ⟨rfl, rfl⟩
theorem ledger_end_none (a c d : Int) (y : Bool) (w : World) : Calls Tryd.prog 11 #[.pointer none, .int .i64 a, .int .i64 c, .int .i64 d, .bool y] w fun e w' => e = .returned (.slice none 0 0) ∧ w = w' := by
  go_enter Tryd.func11, Tryd.ntmps11
  go_wp2_with fail
  go_ret
  exact ⟨rfl, rfl⟩
end Go.Proofs.YtkdekdogfplbmaaDoor
