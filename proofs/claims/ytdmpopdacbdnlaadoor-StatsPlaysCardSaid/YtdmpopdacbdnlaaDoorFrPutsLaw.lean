/- Frames one behind the other: their items. No program. -/
import Derived.Test.YtdmpopdacbdnlaaDoorFrPieceLaw
namespace Go.Proofs.YtdmpopdacbdnlaaDoor
def putsAll (ks : List (UInt8 × List UInt8)) : List UInt8 := (ks.map fun p => Fr.put p.1 p.2).flatten
theorem putsAll_snoc (ks : List (UInt8 × List UInt8)) (p : UInt8 × List UInt8) : putsAll (ks ++ [p]) = putsAll ks ++ Fr.put p.1 p.2 := by simp [putsAll]
theorem putsAll_cons (ks : List (UInt8 × List UInt8)) (p : UInt8 × List UInt8) : putsAll (p :: ks) = Fr.put p.1 p.2 ++ putsAll ks := by simp [putsAll]
theorem putsAll_le (ks : List (UInt8 × List UInt8)) (h : ∀ p ∈ ks, p.2.length ≤ 256) : (putsAll ks).length ≤ ks.length * 263 := by
  induction ks with
  | nil => simp [putsAll]
  | cons p ks ih =>
    rw [putsAll_cons, List.length_append, Fr.put_length]
    have h1 := h p (by simp)
    have h2 := ih (fun q hq => h q (by simp [hq]))
    simp only [List.length_cons]
    omega
def frameOf (p : UInt8 × List UInt8) : It := ⟨0, p.1, p.2⟩
theorem pass_puts (over : Bool) (R : List UInt8) : ∀ (ks : List (UInt8 × List UInt8)) (f : List It), (∀ p ∈ ks, p.2.length ≤ 256) → Fr.pass over (putsAll ks ++ R) 0 f = Fr.pass over R 0 (f ++ ks.map frameOf) := by
  intro ks
  induction ks with
  | nil => intro f _; simp [putsAll]
  | cons p ks ih =>
    intro f h
    rw [putsAll_cons, List.append_assoc, Fr.pass_put _ _ _ _ _ _ (h p (by simp)), ih _ (fun q hq => h q (by simp [hq]))]
    simp [Fr.tell, frameOf]
theorem pass_puts_s (over : Bool) (R : List UInt8) (p : UInt8 × List UInt8) (ks : List (UInt8 × List UInt8)) (s : Nat) (f : List It) (h : ∀ q ∈ p :: ks, q.2.length ≤ 256) : Fr.pass over (putsAll (p :: ks) ++ R) s f = Fr.pass over R 0 (Fr.tell s f ++ (p :: ks).map frameOf) := by
  rw [putsAll_cons, List.append_assoc, Fr.pass_put _ _ _ _ _ _ (h p (by simp)), pass_puts _ _ _ _ (fun q hq => h q (by simp [hq]))]
  simp [frameOf]
theorem pass_noises (over : Bool) (R : List UInt8) : ∀ (xs : List UInt8) (s : Nat) (f : List It), (∀ x ∈ xs, x ≠ 165) → Fr.pass over (xs ++ R) s f = Fr.pass over R (s + xs.length) f := by
  intro xs
  induction xs with
  | nil => intro s f _; rfl
  | cons x xs ih =>
    intro s f h
    rw [List.cons_append, Fr.pass_noise _ _ _ _ _ (h x (by simp)), ih _ _ (fun y hy => h y (by simp [hy]))]
    congr 1
    simp only [List.length_cons]; omega
theorem items_one (b : List UInt8) : items [b] = Fr.tell (Fr.pass true (Fr.pass false b 0 []).1 (Fr.pass false b 0 []).2.1 (Fr.pass false b 0 []).2.2).2.1 (Fr.pass true (Fr.pass false b 0 []).1 (Fr.pass false b 0 []).2.1 (Fr.pass false b 0 []).2.2).2.2 := by
  unfold items givesAll
  simp only [List.foldl_cons, List.foldl_nil]
  unfold St.give
  rw [if_neg (by simp [St.new])]
  unfold St.fin
  simp only [Bool.false_eq_true, if_false]
  simp [St.new]
theorem items_puts (ks : List (UInt8 × List UInt8)) (h : ∀ p ∈ ks, p.2.length ≤ 256) : items [putsAll ks] = ks.map frameOf := by
  have := pass_puts false [] ks [] h
  rw [List.append_nil, Fr.pass_nil] at this
  rw [items_one, this, Fr.pass_nil]
  simp [Fr.tell]
theorem items_after (xs : List UInt8) (ks : List (UInt8 × List UInt8)) (hx : ∀ x ∈ xs, x ≠ 165) (h : ∀ p ∈ ks, p.2.length ≤ 256) (hn : 0 < xs.length) : items [xs, putsAll ks] = ⟨xs.length, 0, []⟩ :: ks.map frameOf := by
  rw [items_flat]
  simp only [List.flatten_cons, List.flatten_nil, List.append_nil]
  have h1 : Fr.pass false (xs ++ putsAll ks) 0 [] = Fr.pass false (putsAll ks) xs.length [] := by
    rw [pass_noises _ _ _ _ _ hx, Nat.zero_add]
  rw [items_one, h1]
  cases ks with
  | nil =>
    rw [show putsAll [] = [] from rfl, Fr.pass_nil, Fr.pass_nil]
    simp [Fr.tell, hn]
  | cons p ks =>
    have := pass_puts_s false [] p ks xs.length [] h
    rw [List.append_nil, Fr.pass_nil] at this
    rw [this, Fr.pass_nil]
    simp [Fr.tell, hn]
theorem items_after0 (ks : List (UInt8 × List UInt8)) : items [[], putsAll ks] = items [putsAll ks] := by
  rw [items_flat]
  simp
theorem takeKB_succ {l : List (UInt8 × List UInt8)} {k : Nat} (h : k < l.length) : l.take (k + 1) = l.take k ++ [l.getD k (0, [])] := by
  rw [List.take_succ_eq_append_getElem h]; simp [List.getD, h]
end Go.Proofs.YtdmpopdacbdnlaaDoor
