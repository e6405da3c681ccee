/- The walk of MarkRaises. -/
import Derived.Test.YtkdekdogfplbmaaMarkAwake
namespace Go.Proofs.Ytkdekdogfplbmaa
open Go.RowKit
set_option linter.unusedVariables false
set_option linter.unusedSimpArgs false

theorem markRaises_walk (a : Option Addr) (len cap : Nat) (zs0 : List Int) (w : World) (h0 : IsRow .i64 w a len cap zs0) :
    Calls Try.prog 4 #[.slice a len cap] w fun e w' => e = .returned (.bool true) ∧ Below w.heap.size w w' := by
  have hR := h0.row
  clear h0
  generalize zs0.take len = zs at *
  have hm : len ≤ 9223372036854775807 := by have := hR.small; unfold maxLen at this; omega
  go_enter Try.func4, Try.ntmps4
  go_wp2_with fail
  refine (awake_any _).mono ?_; rintro e w1 ⟨rfl, hb1⟩
  have z1 := hb1.size
  by_cases hl : 200 < len
  · go_wp2_with fail
    go_ret
    exact ⟨rfl, hb1⟩
  · go_wp2_with fail
    refine (mark_new _).mono ?_; rintro e w2 ⟨rfl, m0, f0, hb2, z2⟩
    go_wp2_with fail
    go_loopw [5, 7] (fun av i wr => ∃ (k : Nat) (v : Int), k ≤ len ∧ i = .int .i64 k ∧ av = .int .i64 v ∧ wr.cell? ⟨w1.heap.size, 0, none⟩ = some (.int .i64 v) ∧ wr.frozen? ⟨w1.heap.size, 0, none⟩ = false ∧ Below w1.heap.size w1 wr ∧ w1.heap.size < wr.heap.size) (fun av i wr => len - (intOf i).toNat)
    case atStart => exact ⟨0, -1, Nat.zero_le _, rfl, rfl, m0, f0, hb2, z2⟩
    case round =>
      obtain ⟨k, v, hk, rfl, rfl, mc, fc, hbr, zr⟩ := hrel
      clear m0 f0 hb2 z2
      by_cases hlt : k < len
      · rcases hR.at_ with h0 | ⟨b, off, rfl, hlb, hc⟩
        · omega
        have d0 := ((hb1.trans (hbr.mono z1)).cell (p := ⟨b, off + k, none⟩) hlb).trans (hc k hlt)
        have g0 := hR.range k
        clear hc
        generalize zs.getD k 0 = x at *
        by_cases hon : v < x
        · go_wp2_with fail
          refine (mark_raise_yes _ _ _ hon _ mc fc).mono ?_; rintro e w' ⟨rfl, rfl⟩
          go_wp2_with fail
          refine (mark_at _ x _ (by simp [go_sem, mc])).mono ?_; rintro e w' ⟨rfl, rfl⟩
          go_wp2_with fail
          refine (mark_raise_nil _ _).mono ?_; rintro e w' ⟨rfl, rfl⟩
          go_wp2_with fail
          refine (mark_at_nil _).mono ?_; rintro e w' ⟨rfl, rfl⟩
          go_wp2_with fail
          go_roundw
          case rel => exact ⟨k + 1, x, by omega, by go_num, rfl, by simp [go_sem, mc], by simp [go_sem, fc], hbr.setCell (Nat.le_refl _) _, by simp; omega⟩
          case measure => simp [intOf]; omega
        · go_wp2_with fail
          refine (mark_raise_no _ v _ (by omega) _ mc).mono ?_; rintro e w' ⟨rfl, rfl⟩
          go_wp2_with fail
          refine (mark_at _ v _ mc).mono ?_; rintro e w' ⟨rfl, rfl⟩
          go_wp2_with fail
          refine (mark_raise_nil _ _).mono ?_; rintro e w' ⟨rfl, rfl⟩
          go_wp2_with fail
          refine (mark_at_nil _).mono ?_; rintro e w' ⟨rfl, rfl⟩
          go_wp2_with fail
          go_roundw
          case rel => exact ⟨k + 1, v, by omega, by go_num, rfl, mc, fc, hbr, zr⟩
          case measure => simp [intOf]; omega
      · go_wp2_with fail
        go_ret
        exact ⟨rfl, hb1.trans (hbr.mono z1)⟩
end Go.Proofs.Ytkdekdogfplbmaa
