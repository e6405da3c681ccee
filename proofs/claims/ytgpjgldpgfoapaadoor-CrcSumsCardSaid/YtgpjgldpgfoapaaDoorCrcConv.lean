/- []byte(s) reads as the string; whether it fits. -/
import Derived.Test.YtgpjgldpgfoapaaDoorCrcMath2
import Derived.Test.YtgpjgldpgfoapaaDoorCrcLaws
import Derived.Deep.RegionWith
namespace Go.Proofs.YtgpjgldpgfoapaaDoor
open Go.RowKit
set_option linter.unusedVariables false
set_option linter.unusedSimpArgs false

/-- What '[]byte(s)' lays reads as the string. -/
theorem RowB.ofString (w : World) (s : ByteArray) (n c : Nat) (t : TypeId) (fr : Nat × Nat) (hn : n = s.size) (hs : s.size ≤ maxLen) (hc : n ≤ c) :
    RowB (w.alloc (.cells (bytesRow s c) t fr)) (some ⟨w.heap.size, 0, none⟩) n c s.data.toList := by
  subst hn
  refine ⟨by simp, hs, hc, .inr ⟨_, _, rfl, by simp, fun i hi => ?_⟩, fun e => by cases e⟩
  have hi' : i < s.data.size := hi
  rw [World.cell?_alloc_mark, Nat.zero_add, bytesRow_at s c i hi']
  rw [getD_eq (by simpa using hi')]
  rfl

theorem fits_conv (w3 : World) (T : ByteArray) (n : Nat) (fr : Nat × Nat) (hn : n = T.size) (hs : T.size ≤ maxLen) (hT : Tab w3) :
    Calls Tryd.prog 16 #[.slice (some ⟨w3.heap.size, 0, none⟩) n (grownCap w3 n 0 5)] (w3.alloc (.cells (bytesRow T (grownCap w3 n 0 5)) 5 fr)).drew fun e w' => e = .returned (.bool (Crc.fits T.data.toList)) ∧ Below w3.heap.size w3 w' := by
  refine (crc_fits _ _ _ T.data.toList _ ?_ ?_).mono ?_
  · exact hT.below (((Below.refl _ _).alloc (Nat.le_refl _) _).drew)
  · exact RowB.ofString w3.drew T n _ _ _ hn hs (grownCap_ge _ _ _ _)
  · rintro e w4 ⟨rfl, hb4⟩
    exact ⟨rfl, (((Below.refl _ _).alloc (Nat.le_refl _) _).drew).trans (hb4.mono (by simp))⟩
end Go.Proofs.YtgpjgldpgfoapaaDoor
