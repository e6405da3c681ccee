/- However bytes are cut into pieces, the items are the same. No program. -/
import Derived.Test.YtdmpopdacbdnlaaDoorFrAllLaw
namespace Go.Proofs.YtdmpopdacbdnlaaDoor
theorem Fr.look_more {x : List UInt8} (b : List UInt8) (hx : x ≠ []) (h : Fr.look x ≠ -1) : Fr.look (x ++ b) = Fr.look x := by
  have hpos : 0 < x.length := List.length_pos_iff.2 hx
  have g : ∀ i, i < x.length → (x ++ b).getD i 0 = x.getD i 0 := fun i hi => by simp [List.getD, List.getElem?_append_left hi]
  unfold Fr.look at h ⊢
  rw [g 0 hpos]
  by_cases h0 : (x.getD 0 0).toNat ≠ 165
  · rw [if_pos h0, if_pos h0]
  rw [if_neg h0] at h ⊢
  rw [if_neg h0]
  by_cases h1 : x.length < 4
  · rw [if_pos h1] at h; exact absurd rfl h
  rw [if_neg h1] at h ⊢
  rw [if_neg (by rw [List.length_append]; omega), g 2 (by omega), g 3 (by omega)]
  by_cases h2 : 256 < (x.getD 2 0).toNat * 256 + (x.getD 3 0).toNat
  · rw [if_pos h2, if_pos h2]
  rw [if_neg h2] at h ⊢
  rw [if_neg h2]
  by_cases h3 : x.length < (x.getD 2 0).toNat * 256 + (x.getD 3 0).toNat + 7
  · rw [if_pos h3] at h; exact absurd rfl h
  rw [if_neg h3, if_neg (by rw [List.length_append]; omega), List.take_append_of_le_length (by omega)]
theorem Fr.item_more {x : List UInt8} (b : List UInt8) {n : Nat} (h2 : 2 ≤ x.length) (hn : n ≤ x.length) : Fr.item (x ++ b) n = Fr.item x n := by
  unfold Fr.item
  rw [List.take_append_of_le_length (by omega)]
  congr 1
  simp [List.getD, List.getElem?_append_left (show 1 < x.length by omega)]
theorem Fr.pass_more (b : List UInt8) : ∀ (x : List UInt8) (s : Nat) (f : List It), Fr.pass false ((Fr.pass false x s f).1 ++ b) (Fr.pass false x s f).2.1 (Fr.pass false x s f).2.2 = Fr.pass false (x ++ b) s f := by
  intro x
  induction hl : x.length using Nat.strongRecOn generalizing x with
  | _ N ih =>
    intro s f
    subst hl
    by_cases h0 : x = []
    · subst h0; rw [Fr.pass_nil]
    · have hpos : 0 < x.length := List.length_pos_iff.2 h0
      have hd : ∀ n, n ≤ x.length → (x ++ b).drop n = x.drop n ++ b := fun n hn => by rw [List.drop_append_of_le_length hn]
      rcases Fr.look_cases x with h | h | ⟨n, h, h7, _, hn⟩
      · have hm := Fr.look_more b h0 (by omega)
        rw [Fr.pass_skip h0 (by omega) (fun e => by omega), Fr.pass_skip (rest := x ++ b) (by simp [h0]) (by omega) (fun e => by omega), hd 1 (by omega)]
        exact ih (x.drop 1).length (by rw [List.length_drop]; omega) (x.drop 1) rfl (s + 1) f
      · rw [Fr.pass_wait h]
      · have hm := Fr.look_more b h0 (by omega)
        rw [Fr.pass_frame h (by omega), Fr.pass_frame (rest := x ++ b) (hm.trans h) (by omega), hd n hn, Fr.item_more b (by omega) hn]
        exact ih (x.drop n).length (by rw [List.length_drop]; omega) (x.drop n) rfl 0 _
theorem gives_flat (bss : List (List UInt8)) : ∀ d : St, d.over = false → bss.foldl St.give d = ⟨(Fr.pass false (d.rest ++ bss.flatten) d.skips d.found).1, (Fr.pass false (d.rest ++ bss.flatten) d.skips d.found).2.1, (Fr.pass false (d.rest ++ bss.flatten) d.skips d.found).2.2, false⟩ ∨ bss = [] := by
  induction bss with
  | nil => intro d _; exact .inr rfl
  | cons b bss ih =>
    intro d hd
    left
    have hg : d.give b = ⟨(Fr.pass false (d.rest ++ b) d.skips d.found).1, (Fr.pass false (d.rest ++ b) d.skips d.found).2.1, (Fr.pass false (d.rest ++ b) d.skips d.found).2.2, false⟩ := by
      unfold St.give; rw [if_neg (by simp [hd])]
    simp only [List.foldl_cons, List.flatten_cons]
    rw [hg]
    rcases ih ⟨(Fr.pass false (d.rest ++ b) d.skips d.found).1, (Fr.pass false (d.rest ++ b) d.skips d.found).2.1, (Fr.pass false (d.rest ++ b) d.skips d.found).2.2, false⟩ rfl with h | h
    · rw [h]
      simp only
      rw [Fr.pass_more, List.append_assoc]
    · subst h
      simp
theorem givesAll_flat (bss : List (List UInt8)) : givesAll bss = givesAll [bss.flatten] := by
  rcases gives_flat bss St.new rfl with h | h
  · unfold givesAll
    rw [h]
    simp only [List.foldl_cons, List.foldl_nil]
    unfold St.give
    rw [if_neg (by simp [St.new])]
  · subst h
    unfold givesAll
    simp only [List.foldl_nil, List.flatten_nil, List.foldl_cons]
    unfold St.give
    rw [if_neg (by simp [St.new])]
    simp [St.new, Fr.pass_nil]
theorem items_flat (bss : List (List UInt8)) : items bss = items [bss.flatten] := by
  unfold items
  rw [givesAll_flat]
theorem tot_flat (bss : List (List UInt8)) : tot [bss.flatten] = tot bss := by
  simp [tot, List.length_flatten]
end Go.Proofs.YtdmpopdacbdnlaaDoor
