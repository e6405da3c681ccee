/- A slice of texts that the frame hands over. -/
import Derived.Test.YtdondjodonmebaaOctTexts
import Derived.ChangeArms
namespace Go.Proofs.Ytdondjodonmebaa
open Go.RowKit
set_option linter.unusedVariables false

theorem IsRows.texts {H : Type} {enc : TypeId × Value → H} {P : Program} {w : World} {e : Nat} {a : Option Addr} {len cap : Nat} (h : IsRows enc P e 1 w a len cap) (he : P.underlying e = some .string) : ∃ ts, RowT w a len ts := by
  obtain ⟨hl, hm, _, hat⟩ := h
  rcases hat with h0 | ⟨b, off, rfl, hbl, hel⟩
  · exact ⟨[], ⟨by simp [h0], by omega, by simp, .inl h0⟩⟩
  · have one : ∀ i, i < len → ∃ s : ByteArray, s.size ≤ maxLen ∧ w.cell? ⟨b, off + i, none⟩ = some (.string s) := by
      intro i hii
      obtain ⟨cs, hcl, hcc, n, y, hd⟩ := hel i hii
      obtain ⟨s, hcs, _, hsz⟩ := DataW.trod_string he hd
      refine ⟨s, hsz, ?_⟩
      have := hcc 0 (by omega)
      rw [hcs] at this
      simpa using this
    refine ⟨(List.range len).map fun i => if h : i < len then (one i h).choose else ⟨#[]⟩, ⟨by simp, by omega, ?_, .inr ⟨b, off, rfl, hbl, fun i hii => ?_⟩⟩⟩
    · intro s hs
      simp only [List.mem_map, List.mem_range] at hs
      obtain ⟨i, hii, rfl⟩ := hs
      rw [dif_pos hii]
      exact (one i hii).choose_spec.1
    · have := (one i hii).choose_spec.2
      simpa [List.getD, hii] using this
end Go.Proofs.Ytdondjodonmebaa
