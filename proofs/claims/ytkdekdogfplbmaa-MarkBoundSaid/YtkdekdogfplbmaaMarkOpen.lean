/- A slice of sources that the frame hands over. -/
import Derived.Test.YtkdekdogfplbmaaMarkRun
import Derived.Test.YtkdekdogfplbmaaKit2
import Derived.Lib.SmallJoins
namespace Go.Proofs.Ytkdekdogfplbmaa
open Go.RowKit
set_option linter.unusedVariables false

theorem IsRows.sources {H : Type} {enc : TypeId × Value → H} {P : Program} {w : World} {e tb ti : Nat} {f0 f1 f2 f3 : Field} {a : Option Addr} {len cap : Nat} (h : IsRows enc P e 4 w a len cap)
    (he : P.underlying e = some (.struct #[f0, f1, f2, f3])) (t0 : f0.type = tb) (t1 : f1.type = ti) (t2 : f2.type = tb) (t3 : f3.type = ti) (o0 : f0.offset = 0) (o1 : f1.offset = 1) (o2 : f2.offset = 2) (o3 : f3.offset = 3)
    (hb : P.underlying tb = some .bool) (hi : P.underlying ti = some (.int .i64)) (cb : P.cellsOf tb = 1) (ci : P.cellsOf ti = 1) : ∃ l, RowS w a len l := by
  obtain ⟨hl, hm, _, hat⟩ := h
  rcases hat with h0 | ⟨b, off, rfl, hbl, hel⟩
  · exact ⟨[], ⟨by simp [h0], by omega, by simp, .inl h0⟩⟩
  · have one : ∀ i, i < len → ∃ s : Src, s.ok ∧ w.cell? ⟨b, off + i * 4, none⟩ = some (.bool s.active) ∧ w.cell? ⟨b, off + i * 4 + 1, none⟩ = some (.int .i64 s.low) ∧ w.cell? ⟨b, off + i * 4 + 2, none⟩ = some (.bool s.has) ∧ w.cell? ⟨b, off + i * 4 + 3, none⟩ = some (.int .i64 s.head) := by
      intro i hii
      obtain ⟨cs, hcl, hcc, n, y, hd⟩ := hel i hii
      obtain ⟨y0, y1, y2, y3, m, _, _, h0, h1, h2, h3⟩ := Joins.trod_struct4 he hd
      rw [t0, o0, cb] at h0
      rw [t1, o1, ci] at h1
      rw [t2, o2, cb] at h2
      rw [t3, o3, ci] at h3
      match cs, hcl with
      | [v0, v1, v2, v3], _ =>
        simp at h0 h1 h2 h3
        obtain ⟨x0, k0, _⟩ := DataW.trod_bool hb h0
        obtain ⟨x1, k1, _, r1⟩ := DataW.trod_int hi h1
        obtain ⟨x2, k2, _⟩ := DataW.trod_bool hb h2
        obtain ⟨x3, k3, _, r3⟩ := DataW.trod_int hi h3
        simp at k0 k1 k2 k3
        subst k0 k1 k2 k3
        have q1 := bounds_i64 r1
        have q3 := bounds_i64 r3
        refine ⟨⟨x0, x1, x2, x3⟩, ⟨q1.1, q1.2, q3.1, q3.2⟩, ?_, ?_, ?_, ?_⟩
        · simpa using hcc 0 (by omega)
        · simpa using hcc 1 (by omega)
        · simpa using hcc 2 (by omega)
        · simpa using hcc 3 (by omega)
    refine ⟨(List.range len).map fun i => if h : i < len then (one i h).choose else default, ⟨by simp, by omega, ?_, .inr ⟨b, off, rfl, hbl, fun i hii => ?_⟩⟩⟩
    · intro s hs
      simp only [List.mem_map, List.mem_range] at hs
      obtain ⟨i, hii, rfl⟩ := hs
      rw [dif_pos hii]
      exact (one i hii).choose_spec.1
    · have := (one i hii).choose_spec.2
      simpa [List.getD, hii] using this
end Go.Proofs.Ytkdekdogfplbmaa
