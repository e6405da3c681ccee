/- A frame of which one byte is turned is none. No program. -/
import Derived.Test.YtegbjlimiephlaaDoorFrPutsLaw
import Derived.Test.YtegbjlimiephlaaDoorCrcMath3
namespace Go.Proofs.YtegbjlimiephlaaDoor
set_option linter.unusedSimpArgs false
theorem spoil_fits (A C : List UInt8) (c t : UInt8) (ht : t ≠ 0) (h : Fr.fits (A ++ c :: C) = true) : Fr.fits (A ++ (c ^^^ t) :: C) = false := by
  have h0 := Crc.fits_zero (A ++ c :: C) h
  cases hf : Fr.fits (A ++ (c ^^^ t) :: C) with
  | false => rfl
  | true =>
    exfalso
    have h1 := Crc.fits_zero (A ++ (c ^^^ t) :: C) hf
    rw [Crc.more_append, Crc.more_cons] at h0 h1
    have hb : Crc.byte (Crc.more Crc.start A) (c ^^^ t) = Crc.byte (Crc.more Crc.start A) c ^^^ Crc.byte 0#24 t := by
      have := Crc.byte_xor (Crc.more Crc.start A) 0#24 c t
      rwa [BitVec.xor_zero] at this
    rw [hb, Crc.more_turn, h0, BitVec.zero_xor] at h1
    have h2 := Crc.Zn_eq_zero h1
    unfold Crc.byte at h2
    rw [BitVec.zero_xor] at h2
    have h3 := Crc.Zn_eq_zero h2
    have h4 := congrArg BitVec.toNat h3
    have hlt := t.toNat_lt
    simp only [BitVec.toNat_ofNat] at h4
    apply ht
    apply UInt8.toNat_inj.1
    show t.toNat = 0
    omega
/-- Turned at k. -/
def spoilt (k : UInt8) (b : List UInt8) (i : Nat) (t : UInt8) : List UInt8 := (Fr.put k b).set i ((Fr.put k b).getD i 0 ^^^ t)
theorem spoilt_look (k : UInt8) (b : List UInt8) (i : Nat) (t : UInt8) (hb : b.length ≤ 256) (ht : t ≠ 0) (hi : i = 1 ∨ 4 ≤ i) (hl : i < b.length + 7) : Fr.look (spoilt k b i t) = 0 := by
  have hlen : (spoilt k b i t).length = b.length + 7 := by unfold spoilt; rw [List.length_set, Fr.put_length]
  have hne : ∀ j, j ≠ i → (spoilt k b i t).getD j 0 = (Fr.put k b).getD j 0 := fun j hj => by
    unfold spoilt
    simp [List.getD, List.getElem?_set, Ne.symm hj]
  have e0 : (spoilt k b i t).getD 0 0 = 165 := hne 0 (by omega)
  have e2 := hne 2 (by omega)
  have e3 := hne 3 (by omega)
  have h2 := Fr.at2 k b [] hb
  have h3 := Fr.at3 k b []
  rw [List.append_nil] at h2 h3
  have hn : ((spoilt k b i t).getD 2 0).toNat * 256 + ((spoilt k b i t).getD 3 0).toNat = b.length := by rw [e2, e3, h2, h3]; omega
  unfold Fr.look
  rw [e0, hn, hlen, if_neg (by simp), if_neg (by omega), if_neg (by omega), if_neg (by omega), List.take_of_length_le (by omega)]
  rw [if_neg]
  have hQ : Fr.put k b = 165 :: (Fr.put k b).drop 1 := rfl
  obtain ⟨j, rfl⟩ : ∃ j, i = j + 1 := ⟨i - 1, by omega⟩
  have hgd : (Fr.put k b).getD (j + 1) 0 = ((Fr.put k b).drop 1).getD j 0 := rfl
  have hd : (spoilt k b (j + 1) t).drop 1 = ((Fr.put k b).drop 1).set j (((Fr.put k b).drop 1).getD j 0 ^^^ t) := by
    unfold spoilt
    rw [hgd]
    rfl
  have hf : Fr.fits ((Fr.put k b).drop 1) = true := Fr.fits_own (Fr.body k b)
  have hlq : ((Fr.put k b).drop 1).length = b.length + 6 := by rw [List.length_drop, Fr.put_length]; omega
  rw [hd]
  generalize (Fr.put k b).drop 1 = Q at *
  have hjq : j < Q.length := by omega
  have hs : Q = Q.take j ++ Q.getD j 0 :: Q.drop (j + 1) := by
    have h1 := List.take_append_drop j Q
    rw [List.drop_eq_getElem_cons hjq] at h1
    rw [show Q.getD j 0 = Q[j] from by simp [List.getD, hjq]]
    exact h1.symm
  rw [List.set_eq_take_append_cons_drop, if_pos hjq]
  rw [hs] at hf
  have := spoil_fits (Q.take j) (Q.drop (j + 1)) (Q.getD j 0) t ht hf
  rw [this]
  simp
/-- the first item is of skipped bytes, or will be -/
def Lead (s : Nat) (f : List It) : Prop := (f = [] ∧ 0 < s) ∨ ∃ x f', f = x :: f' ∧ 0 < x.skip
theorem lead_tell {s : Nat} {f : List It} (h : Lead s f) : ∃ x f', Fr.tell s f = x :: f' ∧ 0 < x.skip := by
  unfold Fr.tell
  rcases h with ⟨rfl, hs⟩ | ⟨x, f', rfl, hx⟩
  · rw [if_pos hs]; exact ⟨_, _, rfl, hs⟩
  · split
    · exact ⟨x, f' ++ [_], rfl, hx⟩
    · exact ⟨x, f', rfl, hx⟩
theorem lead_pass (over : Bool) : ∀ (x : List UInt8) (s : Nat) (f : List It), Lead s f → Lead (Fr.pass over x s f).2.1 (Fr.pass over x s f).2.2 := by
  intro x
  induction hl : x.length using Nat.strongRecOn generalizing x with
  | _ N ih =>
    intro s f hL
    subst hl
    by_cases h0 : x = []
    · subst h0; rw [Fr.pass_nil]; exact hL
    · have hpos : 0 < x.length := List.length_pos_iff.2 h0
      have hL1 : Lead (s + 1) f := hL.imp (fun h => ⟨h.1, by omega⟩) id
      rcases Fr.look_cases x with h | h | ⟨n, h, h7, _, hn⟩
      · rw [Fr.pass_skip h0 (by omega) (fun e => by omega)]
        exact ih (x.drop 1).length (by rw [List.length_drop]; omega) (x.drop 1) rfl _ _ hL1
      · cases over
        · rw [Fr.pass_wait h]; exact hL
        · rw [Fr.pass_skip h0 (by omega) (fun e => by simp at e)]
          exact ih (x.drop 1).length (by rw [List.length_drop]; omega) (x.drop 1) rfl _ _ hL1
      · rw [Fr.pass_frame h (by omega)]
        obtain ⟨y, f', e, hy⟩ := lead_tell hL
        refine ih (x.drop n).length (by rw [List.length_drop]; omega) (x.drop n) rfl _ _ (.inr ⟨y, f' ++ [Fr.item x n], ?_, hy⟩)
        rw [e]; rfl
theorem spoilt_items (k : UInt8) (b : List UInt8) (i : Nat) (t : UInt8) (hb : b.length ≤ 256) (ht : t ≠ 0) (hi : i = 1 ∨ 4 ≤ i) (hl : i < b.length + 7) : ∃ x f', items [spoilt k b i t] = x :: f' ∧ 0 < x.skip := by
  have hlen : (spoilt k b i t).length = b.length + 7 := by unfold spoilt; rw [List.length_set, Fr.put_length]
  rw [items_one]
  apply lead_tell
  apply lead_pass
  rw [Fr.pass_skip (by intro e; rw [e] at hlen; simp at hlen) (by rw [spoilt_look k b i t hb ht hi hl]; omega) (fun e => by rw [spoilt_look k b i t hb ht hi hl] at e; omega)]
  apply lead_pass
  exact .inl ⟨rfl, by omega⟩
end Go.Proofs.YtegbjlimiephlaaDoor
