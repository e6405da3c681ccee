/- Frames that are put are found. No program. -/
import Derived.Test.YtegbjlimiephlaaDoorFrWalk
namespace Go.Proofs.YtegbjlimiephlaaDoor
/-- a frame's bytes -/
def Fr.body (k : UInt8) (b : List UInt8) : List UInt8 := k :: UInt8.ofNat (b.length / 256) :: UInt8.ofNat (b.length % 256) :: b
def Fr.put (k : UInt8) (b : List UInt8) : List UInt8 := 165 :: Fr.body k b ++ Crc.put (Crc.sum (Fr.body k b)).toNat
theorem Fr.body_length (k : UInt8) (b : List UInt8) : (Fr.body k b).length = b.length + 3 := rfl
theorem Fr.put_length (k : UInt8) (b : List UInt8) : (Fr.put k b).length = b.length + 7 := by
  unfold Fr.put
  rw [List.length_append, List.length_cons, Fr.body_length]
  rfl
theorem Fr.fits_own (l : List UInt8) : Fr.fits (l ++ Crc.put (Crc.sum l).toNat) = true := by
  have h3 : (Crc.put (Crc.sum l).toNat).length = 3 := rfl
  unfold Fr.fits
  rw [List.length_append, h3, if_neg (by omega), Nat.add_sub_cancel, List.take_left, List.drop_left]
  simp
theorem Fr.at0 (k : UInt8) (b R : List UInt8) : (Fr.put k b ++ R).getD 0 0 = 165 := rfl
theorem Fr.at1 (k : UInt8) (b R : List UInt8) : (Fr.put k b ++ R).getD 1 0 = k := rfl
theorem Fr.at2 (k : UInt8) (b R : List UInt8) (hb : b.length ≤ 256) : ((Fr.put k b ++ R).getD 2 0).toNat = b.length / 256 := by
  show (UInt8.ofNat (b.length / 256)).toNat = _
  rw [UInt8.toNat_ofNat']; omega
theorem Fr.at3 (k : UInt8) (b R : List UInt8) : ((Fr.put k b ++ R).getD 3 0).toNat = b.length % 256 := by
  show (UInt8.ofNat (b.length % 256)).toNat = _
  rw [UInt8.toNat_ofNat']; omega
theorem Fr.look_put (k : UInt8) (b R : List UInt8) (hb : b.length ≤ 256) : Fr.look (Fr.put k b ++ R) = ((b.length + 7 : Nat) : Int) := by
  have h2 := Fr.at2 k b R hb
  have h3 := Fr.at3 k b R
  have hn : ((Fr.put k b ++ R).getD 2 0).toNat * 256 + ((Fr.put k b ++ R).getD 3 0).toNat = b.length := by rw [h2, h3]; omega
  have hl : (Fr.put k b ++ R).length = b.length + 7 + R.length := by rw [List.length_append, Fr.put_length]
  unfold Fr.look
  rw [Fr.at0, hn, hl, if_neg (by simp), if_neg (by omega), if_neg (by omega), if_neg (by omega), List.take_append_of_le_length (by rw [Fr.put_length]; exact Nat.le_refl _), List.take_of_length_le (by rw [Fr.put_length]; exact Nat.le_refl _)]
  rw [if_pos (show Fr.fits ((Fr.put k b).drop 1) = true from Fr.fits_own (Fr.body k b))]
theorem Fr.item_put (k : UInt8) (b R : List UInt8) : Fr.item (Fr.put k b ++ R) (b.length + 7) = ⟨0, k, b⟩ := by
  unfold Fr.item
  rw [Fr.at1]
  have : ((Fr.put k b ++ R).take (b.length + 7 - 3)).drop 4 = b := by
    show (List.drop 4 (List.take (b.length + 4) (165 :: k :: UInt8.ofNat (b.length / 256) :: UInt8.ofNat (b.length % 256) :: (b ++ Crc.put (Crc.sum (Fr.body k b)).toNat ++ R)))) = b
    simp only [List.take_succ_cons, List.drop_succ_cons, List.drop_zero]
    rw [List.append_assoc, List.take_left]
  rw [this]
theorem Fr.drop_put (k : UInt8) (b R : List UInt8) : (Fr.put k b ++ R).drop (b.length + 7) = R := by
  rw [← Fr.put_length k b, List.drop_left]
theorem Fr.pass_put (over : Bool) (k : UInt8) (b R : List UInt8) (s : Nat) (f : List It) (hb : b.length ≤ 256) : Fr.pass over (Fr.put k b ++ R) s f = Fr.pass over R 0 (Fr.tell s f ++ [⟨0, k, b⟩]) := by
  rw [Fr.pass_frame (Fr.look_put k b R hb) (by omega), Fr.drop_put, Fr.item_put]
/-- a byte that is no mark is skipped -/
theorem Fr.pass_noise (over : Bool) (x : UInt8) (R : List UInt8) (s : Nat) (f : List It) (hx : x ≠ 165) : Fr.pass over (x :: R) s f = Fr.pass over R (s + 1) f := by
  have hl : Fr.look (x :: R) = 0 := by
    unfold Fr.look
    rw [if_pos]
    intro e
    exact hx (UInt8.toNat_inj.1 e)
  rw [Fr.pass_skip (by simp) (by omega) (fun e => by omega)]
  rfl
theorem give1 : St.new.give [1, 2] = ⟨[], 2, [], false⟩ := by
  unfold St.give St.new
  rw [if_neg (by simp)]
  simp only [List.nil_append]
  rw [Fr.pass_noise _ _ _ _ _ (by decide), Fr.pass_noise _ _ _ _ _ (by decide), Fr.pass_nil]
theorem give2 : St.give ⟨[], 2, [], false⟩ (Fr.put 3 [7]) = ⟨[], 0, [⟨2, 0, []⟩, ⟨0, 3, [7]⟩], false⟩ := by
  unfold St.give
  rw [if_neg (by simp)]
  simp only [List.nil_append]
  have := Fr.pass_put false 3 [7] [] 2 [] (by simp)
  rw [List.append_nil] at this
  rw [this, Fr.pass_nil]
  rfl
end Go.Proofs.YtegbjlimiephlaaDoor
