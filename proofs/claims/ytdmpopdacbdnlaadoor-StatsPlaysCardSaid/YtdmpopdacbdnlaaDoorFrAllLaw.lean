/- All the items of pieces: how many there may be. No program. -/
import Derived.Test.YtdmpopdacbdnlaaDoorFrG
namespace Go.Proofs.YtdmpopdacbdnlaaDoor
theorem Fr.pass_bound1 (over : Bool) : ∀ (rest : List UInt8) (s : Nat) (f : List It), (Fr.pass over rest s f).2.2.length + (Fr.pass over rest s f).2.1 + (Fr.pass over rest s f).1.length ≤ f.length + s + rest.length := by
  intro rest
  induction hl : rest.length using Nat.strongRecOn generalizing rest with
  | _ N ih =>
    intro s f
    subst hl
    by_cases h0 : rest = []
    · subst h0; rw [Fr.pass_nil]; simp
    · have hpos : 0 < rest.length := List.length_pos_iff.2 h0
      rcases Fr.look_cases rest with h | h | ⟨n, h, h7, _, hn⟩
      · rw [Fr.pass_skip h0 (by omega) (fun e => by omega)]
        have := ih (rest.drop 1).length (by rw [List.length_drop]; omega) (rest.drop 1) rfl (s + 1) f
        rw [List.length_drop] at this; omega
      · cases over
        · rw [Fr.pass_wait h]; simp only; omega
        · rw [Fr.pass_skip h0 (by omega) (fun e => by simp at e)]
          have := ih (rest.drop 1).length (by rw [List.length_drop]; omega) (rest.drop 1) rfl (s + 1) f
          rw [List.length_drop] at this; omega
      · rw [Fr.pass_frame h (by omega)]
        have := ih (rest.drop n).length (by rw [List.length_drop]; omega) (rest.drop n) rfl 0 (Fr.tell s f ++ [Fr.item rest n])
        have ht := Fr.tell_le s f
        rw [List.length_drop, List.length_append] at this
        simp only [List.length_cons, List.length_nil] at this
        omega
def St.sz (d : St) : Nat := d.found.length + d.skips + d.rest.length
theorem St.give_sz (d : St) (b : List UInt8) : (d.give b).sz ≤ d.sz + b.length := by
  unfold St.give
  split
  · omega
  · have := Fr.pass_bound1 false (d.rest ++ b) d.skips d.found
    rw [List.length_append] at this
    unfold St.sz
    simp only
    omega
theorem St.fin_sz (d : St) : d.fin.sz ≤ d.sz := by
  unfold St.fin
  split
  · omega
  · have := Fr.pass_bound1 true d.rest d.skips d.found
    have h2 := Fr.tell_le (Fr.pass true d.rest d.skips d.found).2.1 (Fr.pass true d.rest d.skips d.found).2.2
    unfold St.sz
    simp only
    omega
def tot (bss : List (List UInt8)) : Nat := (bss.map List.length).sum
theorem tot_snoc (bss : List (List UInt8)) (b : List UInt8) : tot (bss ++ [b]) = tot bss + b.length := by simp [tot]
def givesAll (bss : List (List UInt8)) : St := bss.foldl St.give St.new
theorem givesAll_snoc (bss : List (List UInt8)) (b : List UInt8) : givesAll (bss ++ [b]) = (givesAll bss).give b := by simp [givesAll]
theorem gives_from (bss : List (List UInt8)) : ∀ d : St, (bss.foldl St.give d).sz ≤ d.sz + tot bss := by
  induction bss with
  | nil => intro d; simp [tot]
  | cons b bss ih =>
    intro d
    have h1 := ih (d.give b)
    have h2 := d.give_sz b
    simp only [List.foldl_cons]
    have h3 : tot (b :: bss) = b.length + tot bss := by simp [tot]
    omega
theorem givesAll_sz (bss : List (List UInt8)) : (givesAll bss).sz ≤ tot bss := by
  have := gives_from bss St.new
  simpa [givesAll, St.sz, St.new] using this
/-- the items of all pieces -/
def items (bss : List (List UInt8)) : List It := (givesAll bss).fin.found
theorem items_le (bss : List (List UInt8)) : (items bss).length ≤ tot bss := by
  have h1 := (givesAll bss).fin_sz
  have h2 := givesAll_sz bss
  have h3 : (items bss).length ≤ (givesAll bss).fin.sz := by unfold St.sz items; omega
  omega
theorem tot_append (a b : List (List UInt8)) : tot (a ++ b) = tot a + tot b := by simp [tot]
theorem tot_take_le (bss : List (List UInt8)) (k : Nat) : tot (bss.take k) ≤ tot bss := by
  have h := tot_append (bss.take k) (bss.drop k)
  rw [List.take_append_drop] at h
  omega
theorem takeBB_succ {l : List (List UInt8)} {k : Nat} (h : k < l.length) : l.take (k + 1) = l.take k ++ [l.getD k []] := by
  rw [List.take_succ_eq_append_getElem h]; simp [List.getD, h]
end Go.Proofs.YtdmpopdacbdnlaaDoor
