/- What is put and read again; what is cut. No program. -/
import Derived.Test.YtdondjodonmebaaOctLaw
namespace Go.Proofs.Ytdondjodonmebaa
open Go.RowKit
theorem take_cut {u m : Nat} (hu : u < 18446744073709551616) (hm : m < (enc u).length) : takeOf ((enc u).take m) = (0, 0, 10) := by
  cases m with
  | zero => simp [takeOf]
  | succ m =>
    by_cases h : u < 248
    · rw [enc_small h] at hm
      simp at hm
    · obtain ⟨n1, n2, _, _⟩ := nb_spec (u := u) (by omega) hu
      rw [enc_big (by omega)] at hm ⊢
      generalize nb u = k at *
      have hx := ofNat_nat (n := 247 + k) (by omega)
      simp [be_length] at hm
      have e0 : ((UInt8.ofNat (247 + k) :: be u k k).take (m + 1)).getD 0 0 = UInt8.ofNat (247 + k) := rfl
      have el : ((UInt8.ofNat (247 + k) :: be u k k).take (m + 1)).length = m + 1 := by simp [be_length]; omega
      unfold takeOf
      rw [e0, el, hx, if_neg (by omega), if_neg (by omega), if_pos (by omega)]
/-- What a reader has left, where its bytes were cut ahead of R's end. -/
def Cut (p : List UInt8) (e : Int) (R : List UInt8) : Prop := (p = [] ∧ e = 10) ∨ (e = 0 ∧ ∃ m, m < R.length ∧ p = R.take m)
theorem cut_num {p : List UInt8} {e : Int} {u : Nat} (hu : u < 18446744073709551616) {R : List UInt8} (h : Cut p e (enc u ++ R)) : Cut (rNum p e).2.1 (rNum p e).2.2 R := by
  rcases h with ⟨rfl, rfl⟩ | ⟨rfl, m, hm, rfl⟩
  · exact .inl ⟨rfl, rfl⟩
  · by_cases hc : m < (enc u).length
    · left
      rw [List.take_append_of_le_length (Nat.le_of_lt hc)]
      unfold rNum
      rw [take_cut hu hc]
      exact ⟨rfl, rfl⟩
    · right
      rw [List.take_append, List.take_of_length_le (by omega), num_enc hu]
      rw [List.length_append] at hm
      exact ⟨rfl, m - (enc u).length, by omega, rfl⟩
theorem cut_text {p : List UInt8} {e : Int} {s : ByteArray} (hs : s.size ≤ 400) {R : List UInt8} (h : Cut p e (encText s ++ R)) : Cut (rText p e 400).2.1 (rText p e 400).2.2 R := by
  have hl : s.data.toList.length = s.size := by rw [Array.length_toList]; rfl
  rcases h with ⟨rfl, rfl⟩ | ⟨rfl, m, hm, rfl⟩
  · exact .inl ⟨rfl, rfl⟩
  · unfold encText at hm ⊢
    rw [List.append_assoc] at hm ⊢
    by_cases hc : m < (enc s.size).length
    · left
      have hr : rNum ((enc s.size ++ (s.data.toList ++ R)).take m) 0 = (0, [], 10) := by
        rw [List.take_append_of_le_length (Nat.le_of_lt hc)]
        unfold rNum
        rw [take_cut (by omega) hc]
        rfl
      unfold rText
      rw [hr]
      exact ⟨rfl, rfl⟩
    · have hr : rNum ((enc s.size ++ (s.data.toList ++ R)).take m) 0 = (s.size, (s.data.toList ++ R).take (m - (enc s.size).length), 0) := by
        rw [List.take_append, List.take_of_length_le (by omega), num_enc (by omega)]
      rw [List.length_append] at hm
      unfold rText
      rw [hr, if_neg (by simp), if_neg (by simp only; omega)]
      have hlen : ((s.data.toList ++ R).take (m - (enc s.size).length)).length = m - (enc s.size).length := by rw [List.length_take]; omega
      by_cases hd : m - (enc s.size).length < s.size
      · left
        rw [if_pos (by simp only [hlen]; exact hd)]
        exact ⟨rfl, rfl⟩
      · right
        rw [if_neg (by simp only [hlen]; exact hd)]
        refine ⟨rfl, m - (enc s.size).length - s.size, ?_, ?_⟩
        · rw [List.length_append] at hm; omega
        · simp only
          rw [List.take_append, List.drop_append, List.drop_eq_nil_of_le (by rw [List.length_take]; omega), List.length_take]
          rw [show s.size - min (m - (enc s.size).length) s.data.toList.length = 0 from by omega]
          rw [List.drop_zero, List.nil_append, hl]
theorem encAll_cons (x : Int) (us : List Int) : encAll (x :: us) = enc x.toNat ++ encAll us := by simp [encAll]
theorem encTexts_cons (s : ByteArray) (ts : List ByteArray) : encTexts (s :: ts) = encText s ++ encTexts ts := by simp [encTexts]
theorem encAll_drop {us : List Int} {k : Nat} (h : k < us.length) (R : List UInt8) : encAll (us.drop k) ++ R = enc (us.getD k 0).toNat ++ (encAll (us.drop (k + 1)) ++ R) := by
  rw [List.drop_eq_getElem_cons h, encAll_cons, List.append_assoc]
  simp [List.getD, h]
theorem encTexts_drop {ts : List ByteArray} {k : Nat} (h : k < ts.length) : encTexts (ts.drop k) = encText (ts.getD k ⟨#[]⟩) ++ encTexts (ts.drop (k + 1)) := by
  rw [List.drop_eq_getElem_cons h, encTexts_cons]
  simp [List.getD, h]
theorem encAll_nil {us : List Int} (h : (encAll us).length = 0) : us = [] := by
  cases us with
  | nil => rfl
  | cons x us => rw [encAll_cons, List.length_append] at h; have := enc_pos x.toNat; omega
theorem encTexts_nil {ts : List ByteArray} (h : (encTexts ts).length = 0) : ts = [] := by
  cases ts with
  | nil => rfl
  | cons x us => rw [encTexts_cons, List.length_append] at h; have := enc_pos x.size; unfold encText at h; rw [List.length_append] at h; omega
theorem cut_end {p : List UInt8} {e : Int} (h : Cut p e []) : p = [] ∧ e = 10 := by
  rcases h with h | ⟨_, m, hm, _⟩
  · exact h
  · cases hm
theorem back_toArray (t : ByteArray) : (⟨t.data.toList.toArray⟩ : ByteArray) = t := by simp
end Go.Proofs.Ytdondjodonmebaa
