/- record.All, plainly: no program. -/
import Derived.Test.YtdmpopdacbdnlaaDoorFrG
import Derived.Test.YtdmpopdacbdnlaaDoorRecTake
namespace Go.Proofs.YtdmpopdacbdnlaaDoor
open Go.RowKit
set_option linter.unusedVariables false
set_option linter.unusedSimpArgs false
def recGo : List Rec → List It → List Rec × Int
  | acc, [] => (acc, 0)
  | acc, it :: r => if 0 < it.skip then ([], 11) else if (takeR it.kind it.body).2 ≠ 0 then ([], (takeR it.kind it.body).2) else recGo (acc ++ [(takeR it.kind it.body).1]) r
def recItems (b : List UInt8) : List It := ((St.new.give b).fin).found
def recAll (b : List UInt8) : List Rec × Int := recGo [] (recItems b)
/-- an item that is a record -/
def It.fine (x : It) : Prop := x.skip = 0 ∧ (takeR x.kind x.body).2 = 0
def It.took (x : It) : Rec := (takeR x.kind x.body).1
theorem recGo_good : ∀ (pre : List It) (acc : List Rec) (rest : List It), (∀ x ∈ pre, x.fine) → recGo acc (pre ++ rest) = recGo (acc ++ pre.map It.took) rest := by
  intro pre
  induction pre with
  | nil => intro acc rest _; simp
  | cons x pre ih =>
    intro acc rest h
    have hx := h x (by simp)
    have h1 : recGo acc (x :: (pre ++ rest)) = recGo (acc ++ [x.took]) (pre ++ rest) := by
      show (if 0 < x.skip then _ else if (takeR x.kind x.body).2 ≠ 0 then _ else _) = _
      rw [if_neg (by have := hx.1; omega), if_neg (by simp [hx.2])]
      rfl
    rw [List.cons_append, h1, ih _ _ (fun y hy => h y (by simp [hy]))]
    simp
theorem recGo_skip (acc : List Rec) (x : It) (r : List It) (h : 0 < x.skip) : recGo acc (x :: r) = ([], 11) := by
  show (if 0 < x.skip then _ else _) = _
  rw [if_pos h]
theorem recGo_bad (acc : List Rec) (x : It) (r : List It) (h0 : x.skip = 0) (h : (takeR x.kind x.body).2 ≠ 0) : recGo acc (x :: r) = ([], (takeR x.kind x.body).2) := by
  show (if 0 < x.skip then _ else if (takeR x.kind x.body).2 ≠ 0 then _ else _) = _
  rw [if_neg (by omega), if_pos h]
theorem recAll_ok {b : List UInt8} (h : ∀ x ∈ recItems b, x.fine) : recAll b = ((recItems b).map It.took, 0) := by
  have := recGo_good (recItems b) [] [] h
  rw [List.append_nil] at this
  unfold recAll
  rw [this]; simp [recGo]
theorem recAll_skip {b : List UInt8} {pre : List It} {x : It} {rest : List It} (he : recItems b = pre ++ x :: rest) (h : ∀ x ∈ pre, x.fine) (hx : 0 < x.skip) : recAll b = ([], 11) := by
  unfold recAll
  rw [he, recGo_good pre [] _ h, recGo_skip _ _ _ hx]
theorem recAll_bad {b : List UInt8} {pre : List It} {x : It} {rest : List It} (he : recItems b = pre ++ x :: rest) (h : ∀ x ∈ pre, x.fine) (hx : x.skip = 0) (hz : (takeR x.kind x.body).2 ≠ 0) : recAll b = ([], (takeR x.kind x.body).2) := by
  unfold recAll
  rw [he, recGo_good pre [] _ h, recGo_bad _ _ _ hx hz]
theorem pass_bodies (over : Bool) : ∀ (rest : List UInt8) (s : Nat) (f : List It), (∀ x ∈ f, x.body.length ≤ 300) → ∀ x ∈ (Fr.pass over rest s f).2.2, x.body.length ≤ 300 := by
  intro rest
  induction hl : rest.length using Nat.strongRecOn generalizing rest with
  | _ N ih =>
    intro s f hf
    subst hl
    by_cases h0 : rest = []
    · subst h0; rw [Fr.pass_nil]; exact hf
    · have hpos : 0 < rest.length := List.length_pos_iff.2 h0
      rcases Fr.look_cases rest with h | h | ⟨n, h, h7, h263, hn⟩
      · rw [Fr.pass_skip h0 (by omega) (fun e => by omega)]
        exact ih (rest.drop 1).length (by rw [List.length_drop]; omega) (rest.drop 1) rfl (s + 1) f hf
      · cases over
        · rw [Fr.pass_wait h]; exact hf
        · rw [Fr.pass_skip h0 (by omega) (fun e => by simp at e)]
          exact ih (rest.drop 1).length (by rw [List.length_drop]; omega) (rest.drop 1) rfl (s + 1) f hf
      · rw [Fr.pass_frame h (by omega)]
        refine ih (rest.drop n).length (by rw [List.length_drop]; omega) (rest.drop n) rfl 0 _ ?_
        intro x hx
        rcases List.mem_append.1 hx with hx | hx
        · unfold Fr.tell at hx
          split at hx
          · rcases List.mem_append.1 hx with hx | hx
            · exact hf x hx
            · rw [List.mem_singleton] at hx; subst hx; simp
          · exact hf x hx
        · rw [List.mem_singleton] at hx; subst hx
          unfold Fr.item
          simp only [List.length_drop, List.length_take]
          omega
theorem recItems_bodies (b : List UInt8) : ∀ x ∈ recItems b, x.body.length ≤ 300 := by
  have h1 : ∀ x ∈ (St.new.give b).found, x.body.length ≤ 300 := by
    unfold St.give
    split
    · intro x hx; simp [St.new] at hx
    · exact pass_bodies false _ _ _ (by intro x hx; simp [St.new] at hx)
  unfold recItems St.fin
  split
  · exact h1
  · have h2 := pass_bodies true (St.new.give b).rest (St.new.give b).skips (St.new.give b).found h1
    intro x hx
    simp only [Fr.tell] at hx
    split at hx
    · rcases List.mem_append.1 hx with hx | hx
      · exact h2 x hx
      · rw [List.mem_singleton] at hx; subst hx; simp
    · exact h2 x hx
theorem St.give_n (d : St) (b : List UInt8) : (d.give b).found.length + (d.give b).skips + 2 * (d.give b).rest.length ≤ d.found.length + d.skips + 2 * d.rest.length + 2 * b.length := by
  unfold St.give
  split
  · omega
  · have := Fr.pass_bound false (d.rest ++ b) d.skips d.found
    rw [List.length_append] at this
    simp only
    omega
theorem recItems_len (b : List UInt8) : (recItems b).length ≤ 2 * b.length := by
  have h1 := St.give_n St.new b
  have e1 : St.new.found.length = 0 := rfl
  have e2 : St.new.skips = 0 := rfl
  have e3 : St.new.rest.length = 0 := rfl
  unfold recItems St.fin
  split
  · omega
  · have h2 := Fr.pass_bound true (St.new.give b).rest (St.new.give b).skips (St.new.give b).found
    have h3 := Fr.tell_le (Fr.pass true (St.new.give b).rest (St.new.give b).skips (St.new.give b).found).2.1 (Fr.pass true (St.new.give b).rest (St.new.give b).skips (St.new.give b).found).2.2
    simp only
    omega
end Go.Proofs.YtdmpopdacbdnlaaDoor
