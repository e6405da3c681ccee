/- lookoutref01.Text: contract. -/
import Derived.Test.YtdondjodonmebaaOctRNum
import Derived.Test.YtdondjodonmebaaOctTexts
namespace Go.Proofs.Ytdondjodonmebaa
open Go.RowKit
set_option linter.unusedVariables false
set_option linter.unusedSimpArgs false
set_option maxHeartbeats 1000000
set_option maxRecDepth 20000
theorem ba_app (a : List UInt8) (s : ByteArray) : ((⟨a.toArray⟩ : ByteArray) ++ s) = ⟨(a ++ s.data.toList).toArray⟩ := by
  apply ByteArray.ext
  simp [ByteArray.data_append]
theorem rtxt_any (s : ByteArray) (hs : s.size ≤ 1000000) (w : World) :
    Calls Try.prog 17 #[.string s] w fun e w' => e = .returned (.string ⟨(encText s).toArray⟩) ∧ Below w.heap.size w w' := by
  have hN := Lib.hid (rnum_any s.size (by omega) w)
  have hel := enc_le s.size
  have hsz : (⟨(enc s.size).toArray⟩ : ByteArray).size = (enc s.size).length := by show (enc s.size).toArray.size = _; simp
  unfold encText
  generalize enc s.size = q at *
  go_enter Try.func17, Try.ntmps17
  go_wp2_with fail
  refine hN.out.mono ?_; rintro x w1 ⟨rfl, hb1⟩
  go_wp2_with fail
  go_ret
  exact ⟨by rw [← ba_app]; rfl, hb1⟩
end Go.Proofs.Ytdondjodonmebaa
