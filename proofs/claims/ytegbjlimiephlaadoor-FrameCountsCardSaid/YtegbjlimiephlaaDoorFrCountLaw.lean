/- What items make, and how many bytes wait. No program. -/
import Derived.Test.YtegbjlimiephlaaDoorFrPieceLaw
namespace Go.Proofs.YtegbjlimiephlaaDoor
def It.many (x : It) : Nat := if 0 < x.skip then x.skip else x.body.length + 7
def many (f : List It) : Nat := (f.map It.many).sum
theorem many_snoc (f : List It) (x : It) : many (f ++ [x]) = many f + x.many := by simp [many]
/-- no two items of skipped bytes stand side by side -/
def Apart (f : List It) : Prop := ∀ i, i + 1 < f.length → 0 < (f.getD (i + 1) It.no).skip → (f.getD i It.no).skip = 0
/-- the last one is a frame -/
def Ends (f : List It) : Prop := 0 < f.length → (f.getD (f.length - 1) It.no).skip = 0
theorem getD_app (f : List It) (x : It) (i : Nat) (h : i < f.length) : (f ++ [x]).getD i It.no = f.getD i It.no := by simp [List.getD, List.getElem?_append_left h]
theorem getD_end (f : List It) (x : It) : (f ++ [x]).getD f.length It.no = x := by simp [List.getD]
theorem apart_snoc {f : List It} {x : It} (h : Apart f) (he : 0 < x.skip → Ends f) : Apart (f ++ [x]) := by
  intro i hi hs
  rw [List.length_append] at hi
  simp only [List.length_cons, List.length_nil] at hi
  by_cases h1 : i + 1 < f.length
  · rw [getD_app f x _ h1] at hs
    rw [getD_app f x _ (by omega)]
    exact h i h1 hs
  · have e : i + 1 = f.length := by omega
    rw [e, getD_end] at hs
    rw [getD_app f x _ (by omega)]
    have := he hs (by omega)
    rwa [← e, Nat.add_sub_cancel] at this
theorem ends_snoc (f : List It) (x : It) (h : x.skip = 0) : Ends (f ++ [x]) := by
  intro _
  rw [List.length_append]
  simp only [List.length_cons, List.length_nil, Nat.add_sub_cancel]
  rw [getD_end]
  exact h
theorem tell_many (s : Nat) (f : List It) : many (Fr.tell s f) = many f + s := by
  unfold Fr.tell
  split
  · rename_i h
    rw [many_snoc]
    simp [It.many, h]
  · omega
theorem tell_apart {s : Nat} {f : List It} (h : Apart f) (he : Ends f) : Apart (Fr.tell s f) := by
  unfold Fr.tell
  split
  · exact apart_snoc h (fun _ => he)
  · exact h
theorem item_many (x : List UInt8) (n : Nat) (h7 : 7 ≤ n) (hn : n ≤ x.length) : (Fr.item x n).many = n := by
  unfold Fr.item It.many
  simp only [Nat.lt_irrefl, if_false]
  rw [List.length_drop, List.length_take]
  omega
theorem pass_counts (over : Bool) : ∀ (x : List UInt8) (s : Nat) (f : List It), Apart f → Ends f → many (Fr.pass over x s f).2.2 + (Fr.pass over x s f).2.1 + (Fr.pass over x s f).1.length = many f + s + x.length ∧ Apart (Fr.pass over x s f).2.2 ∧ Ends (Fr.pass over x s f).2.2 := by
  intro x
  induction hl : x.length using Nat.strongRecOn generalizing x with
  | _ N ih =>
    intro s f hA hE
    subst hl
    by_cases h0 : x = []
    · subst h0; rw [Fr.pass_nil]; exact ⟨rfl, hA, hE⟩
    · have hpos : 0 < x.length := List.length_pos_iff.2 h0
      rcases Fr.look_cases x with h | h | ⟨n, h, h7, _, hn⟩
      · rw [Fr.pass_skip h0 (by omega) (fun e => by omega)]
        obtain ⟨r1, r2⟩ := ih (x.drop 1).length (by rw [List.length_drop]; omega) (x.drop 1) rfl (s + 1) f hA hE
        rw [List.length_drop] at r1
        exact ⟨by omega, r2⟩
      · cases over
        · rw [Fr.pass_wait h]; exact ⟨rfl, hA, hE⟩
        · rw [Fr.pass_skip h0 (by omega) (fun e => by simp at e)]
          obtain ⟨r1, r2⟩ := ih (x.drop 1).length (by rw [List.length_drop]; omega) (x.drop 1) rfl (s + 1) f hA hE
          rw [List.length_drop] at r1
          exact ⟨by omega, r2⟩
      · rw [Fr.pass_frame h (by omega)]
        have hA2 : Apart (Fr.tell s f ++ [Fr.item x n]) := apart_snoc (tell_apart hA hE) (fun hs => by simp [Fr.item] at hs)
        have hE2 : Ends (Fr.tell s f ++ [Fr.item x n]) := ends_snoc _ _ rfl
        obtain ⟨r1, r2⟩ := ih (x.drop n).length (by rw [List.length_drop]; omega) (x.drop n) rfl 0 _ hA2 hE2
        rw [List.length_drop, many_snoc, tell_many, item_many x n h7 hn] at r1
        exact ⟨by omega, r2⟩
theorem pass_over_nil : ∀ (x : List UInt8) (s : Nat) (f : List It), (Fr.pass true x s f).1 = [] := by
  intro x
  induction hl : x.length using Nat.strongRecOn generalizing x with
  | _ N ih =>
    intro s f
    subst hl
    by_cases h0 : x = []
    · subst h0; rw [Fr.pass_nil]
    · have hpos : 0 < x.length := List.length_pos_iff.2 h0
      rcases Fr.look_cases x with h | h | ⟨n, h, h7, _, hn⟩
      · rw [Fr.pass_skip h0 (by omega) (fun e => by omega)]
        exact ih (x.drop 1).length (by rw [List.length_drop]; omega) (x.drop 1) rfl _ _
      · rw [Fr.pass_skip h0 (by omega) (fun e => by simp at e)]
        exact ih (x.drop 1).length (by rw [List.length_drop]; omega) (x.drop 1) rfl _ _
      · rw [Fr.pass_frame h (by omega)]
        exact ih (x.drop n).length (by rw [List.length_drop]; omega) (x.drop n) rfl _ _
theorem look_wait_le {x : List UInt8} (h : Fr.look x = -1) : x.length ≤ 262 := by
  unfold Fr.look at h
  split at h
  · omega
  · split at h
    · omega
    · split at h
      · omega
      · split at h
        · omega
        · split at h <;> omega
theorem pass_waits : ∀ (x : List UInt8) (s : Nat) (f : List It), (Fr.pass false x s f).1.length ≤ 262 := by
  intro x
  induction hl : x.length using Nat.strongRecOn generalizing x with
  | _ N ih =>
    intro s f
    subst hl
    by_cases h0 : x = []
    · subst h0; rw [Fr.pass_nil]; simp
    · have hpos : 0 < x.length := List.length_pos_iff.2 h0
      rcases Fr.look_cases x with h | h | ⟨n, h, h7, _, hn⟩
      · rw [Fr.pass_skip h0 (by omega) (fun e => by omega)]
        exact ih (x.drop 1).length (by rw [List.length_drop]; omega) (x.drop 1) rfl _ _
      · rw [Fr.pass_wait h]; exact look_wait_le h
      · rw [Fr.pass_frame h (by omega)]
        exact ih (x.drop n).length (by rw [List.length_drop]; omega) (x.drop n) rfl _ _
theorem items_counts (bss : List (List UInt8)) : many (items bss) = tot bss ∧ Apart (items bss) := by
  rw [items_flat, ← tot_flat]
  generalize bss.flatten = b
  have ht : tot [b] = b.length := by simp [tot]
  have hi : items [b] = Fr.tell (Fr.pass true (Fr.pass false b 0 []).1 (Fr.pass false b 0 []).2.1 (Fr.pass false b 0 []).2.2).2.1 (Fr.pass true (Fr.pass false b 0 []).1 (Fr.pass false b 0 []).2.1 (Fr.pass false b 0 []).2.2).2.2 := by
    unfold items givesAll
    simp only [List.foldl_cons, List.foldl_nil]
    unfold St.give
    rw [if_neg (by simp [St.new])]
    unfold St.fin
    simp only [Bool.false_eq_true, if_false]
    simp [St.new]
  rw [hi, ht]
  obtain ⟨r1, r2, r3⟩ := pass_counts false b 0 [] (fun i h => by simp at h) (fun h => by simp at h)
  obtain ⟨q1, q2, q3⟩ := pass_counts true (Fr.pass false b 0 []).1 (Fr.pass false b 0 []).2.1 (Fr.pass false b 0 []).2.2 r2 r3
  have hn := pass_over_nil (Fr.pass false b 0 []).1 (Fr.pass false b 0 []).2.1 (Fr.pass false b 0 []).2.2
  refine ⟨?_, tell_apart q2 q3⟩
  rw [tell_many]
  rw [hn] at q1
  simp [many] at q1 r1 ⊢
  omega
theorem gives_held (bss : List (List UInt8)) : (givesAll bss).rest.length ≤ 262 ∧ (givesAll bss).rest.length ≤ tot bss := by
  refine ⟨?_, ?_⟩
  · rcases gives_flat bss St.new rfl with h | h
    · unfold givesAll; rw [h]; exact pass_waits _ _ _
    · subst h; simp [givesAll, St.new]
  · have := givesAll_sz bss
    unfold St.sz at this
    omega
theorem many_take_succ {f : List It} {k : Nat} (h : k < f.length) : many (f.take (k + 1)) = many (f.take k) + (f.getD k It.no).many := by
  rw [List.take_succ_eq_append_getElem h, many_snoc]
  simp [List.getD, h]
theorem many_take_le (f : List It) (k : Nat) : many (f.take k) ≤ many f := by
  have h : many (f.take k ++ f.drop k) = many (f.take k) + many (f.drop k) := by unfold many; rw [List.map_append, List.sum_append]
  rw [List.take_append_drop] at h
  omega
end Go.Proofs.YtegbjlimiephlaaDoor
