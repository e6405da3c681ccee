/- frame.Decoder: how many bytes wait: contract. -/
import Derived.Test.YtdmpopdacbdnlaaDoorFrG
namespace Go.Proofs.YtdmpopdacbdnlaaDoor
open Go.RowKit
set_option linter.unusedVariables false
set_option linter.unusedSimpArgs false
set_option maxHeartbeats 4000000
set_option maxRecDepth 20000
theorem held_any (g : Nat) (S : Nat → Prop) (d : St) (w : World) (h : Dec w g S d) : Calls Tryd.prog 65 #[.pointer (some ⟨g, 0, none⟩)] w fun e w' => e = .returned (.int .i64 (d.rest.length : Int)) ∧ w = w' := by
  obtain ⟨rq, rn, rc, fq, fn, fc, hM⟩ := h.m
  have c0 := hM.c0
  obtain ⟨hn, hR⟩ := hM.own.rowS
  rw [← hn]
  have hm := hR.small
  unfold maxLen at hm
  replace hn := Lib.hid hn
  go_enter Tryd.func65, Tryd.ntmps65
  go_wp2_with fail
  go_ret
  exact ⟨rfl, rfl⟩
theorem held_none (w : World) : Calls Tryd.prog 65 #[.pointer none] w fun e w' => e = .returned (.int .i64 0) ∧ w = w' := by
  go_enter Tryd.func65, Tryd.ntmps65
  go_wp2_with fail
  go_ret
  exact ⟨rfl, rfl⟩
end Go.Proofs.YtdmpopdacbdnlaaDoor
