/- A slice of elements of m cells each, whatever they are: one that may be read; one of the call's own; append onto it. No program. -/
import Derived.Test.YtkdekdogfplbmaaDoorTurn
import Derived.Deep.AppendLies
namespace Go.Proofs.YtkdekdogfplbmaaDoor
open Go.RowKit
set_option linter.unusedVariables false

/-- A slice of elements of m cells each that may be read: cs are the elements' cells. -/
structure RowG (m : Nat) (w : World) (q : Option Addr) (n : Nat) (cs : List (List Value)) : Prop where
  length : cs.length = n
  small : n ≤ maxLen
  at_ : n = 0 ∨ ∃ b off, q = some ⟨b, off, none⟩ ∧ b < w.heap.size ∧ ∀ i, i < n → ∀ j v, (cs.getD i [])[j]? = some v → w.cell? ⟨b, off + i * m + j, none⟩ = some v
theorem RowG.turn {m : Nat} {S : Nat → Prop} {w w' : World} {q : Option Addr} {n : Nat} {cs : List (List Value)} (h : RowG m w q n cs) (ht : Turn S w w') (ho : Off S q) : RowG m w' q n cs :=
  ⟨h.length, h.small, h.at_.imp id (by
    rintro ⟨b, off, rfl, hl, hc⟩
    exact ⟨b, off, rfl, Nat.lt_of_lt_of_le hl ht.size, fun i hi j v hv => (ht.cell (p := ⟨b, off + i * m + j, none⟩) hl (ho ⟨b, off, none⟩ rfl)).trans (hc i hi j v hv)⟩)⟩
theorem RowG.below {m : Nat} {w w' : World} {q : Option Addr} {n : Nat} {cs : List (List Value)} (h : RowG m w q n cs) (hb : Below w.heap.size w w') : RowG m w' q n cs :=
  h.turn (S := fun _ => False) (Turn.ofBelow hb rfl) (fun _ _ h => h)
theorem RowG.empty (m : Nat) (w : World) (q : Option Addr) : RowG m w q 0 [] := ⟨rfl, Nat.zero_le _, .inl rfl⟩
/-- An element's cells, where they lie. -/
theorem RowG.get {m : Nat} {w : World} {q : Option Addr} {n : Nat} {cs : List (List Value)} (h : RowG m w q n cs) (h0 : 0 < n) : ∃ b off, q = some ⟨b, off, none⟩ ∧ b < w.heap.size ∧ ∀ i, i < n → ∀ j v, (cs.getD i [])[j]? = some v → w.cell? ⟨b, off + i * m + j, none⟩ = some v := by
  rcases h.at_ with h | h
  · omega
  · exact h
theorem flatten_get {α : Type} (m : Nat) (cs : List (List α)) (hw : ∀ c ∈ cs, c.length = m) (i j : Nat) (hi : i < cs.length) (hj : j < m) : cs.flatten[i * m + j]? = (cs.getD i [])[j]? := by
  induction cs generalizing i with
  | nil => simp at hi
  | cons c cs ih =>
    have hc := hw c (by simp)
    cases i with
    | zero => simp [List.getElem?_append_left (show j < c.length by omega)]
    | succ k =>
      have e : (k + 1) * m + j = c.length + (k * m + j) := by rw [hc, Nat.succ_mul]; omega
      rw [List.flatten_cons, e, List.getElem?_append_right (by omega), Nat.add_sub_cancel_left, ih (fun c' h => hw c' (by simp [h])) k (by simpa using hi)]
      simp
theorem flatten_len {α : Type} (m : Nat) (cs : List (List α)) (hw : ∀ c ∈ cs, c.length = m) : cs.flatten.length = cs.length * m := by
  induction cs with
  | nil => simp
  | cons c cs ih => rw [List.flatten_cons, List.length_append, hw c (by simp), ih (fun c' h => hw c' (by simp [h])), List.length_cons, Nat.succ_mul]; omega
/-- A slice of elements of m cells each of the call's own. -/
structure OwnG (t : TypeId) (m base : Nat) (w : World) (v : Value) (cs : List (List Value)) : Prop where
  owns : w.ownsRow base t m v cs.length cs.flatten
  small : cs.length ≤ maxLen
  wide : ∀ c ∈ cs, c.length = m
theorem OwnG.nil (t : TypeId) (m base : Nat) (w : World) : OwnG t m base w (.slice none 0 0) [] := ⟨World.ownsRow_nil w base t m, Nat.zero_le _, fun c h => (List.not_mem_nil h).elim⟩
theorem OwnG.kept {t : TypeId} {m base : Nat} {w w' : World} {v : Value} {cs : List (List Value)} (h : OwnG t m base w v cs) {row : Option Nat} (hg : w.grownBy w' row) (hne : v.ownBlock = none ∨ v.ownBlock ≠ row) : OwnG t m base w' v cs := ⟨h.owns.kept hg hne, h.small, h.wide⟩
theorem OwnG.turn {S : Nat → Prop} {t : TypeId} {m base : Nat} {w w' : World} {v : Value} {cs : List (List Value)} (h : OwnG t m base w v cs) (ht : Turn S w w') (ho : ∀ k, v.ownBlock = some k → ¬ S k) : OwnG t m base w' v cs := by
  refine ⟨⟨h.owns.1, ?_⟩, h.small, h.wide⟩
  rcases h.owns.2 with hn | ⟨g, cap, cur, hv, hb, hg, rest⟩
  · exact .inl hn
  · refine .inr ⟨g, cap, cur, hv, hb, ?_, rest⟩
    rw [ht.block g (Array.getElem?_eq_some_iff.1 hg).1 (ho g (by rw [hv]; rfl))]
    exact hg
theorem OwnG.below {t : TypeId} {m base : Nat} {w w' : World} {v : Value} {cs : List (List Value)} (h : OwnG t m base w v cs) (hb : Below w.heap.size w w') : OwnG t m base w' v cs :=
  h.turn (S := fun _ => False) (Turn.ofBelow hb rfl) (fun _ _ h => h)
theorem OwnG.lower {t : TypeId} {m base base' : Nat} {w : World} {v : Value} {cs : List (List Value)} (h : OwnG t m base w v cs) (hb : base' ≤ base) : OwnG t m base' w v cs := by
  refine ⟨⟨h.owns.1, ?_⟩, h.small, h.wide⟩
  rcases h.owns.2 with hn | ⟨g, cap, cur, hv, hbb, rest⟩
  · exact .inl hn
  · exact .inr ⟨g, cap, cur, hv, Nat.le_trans hb hbb, rest⟩
theorem OwnG.row {t : TypeId} {m base : Nat} {w : World} {v : Value} {cs : List (List Value)} (h : OwnG t m base w v cs) : ∃ q cap, v = .slice q cs.length cap ∧ RowG m w q cs.length cs ∧ cs.length ≤ cap ∧ ∀ x, q = some x → base ≤ x.block ∧ x.off = 0 ∧ x.block < w.heap.size := by
  obtain ⟨hown, hsm, hwd⟩ := h
  rcases hown.2 with ⟨rfl, h0⟩ | ⟨g, cap, cur, rfl, hb, hg, hnc, hcm, hcs, htake⟩
  · exact ⟨none, 0, by rw [h0], ⟨rfl, hsm, .inl h0⟩, by omega, fun x e => by cases e⟩
  · have hlt := (Array.getElem?_eq_some_iff.1 hg).1
    refine ⟨some ⟨g, 0, none⟩, cap, rfl, ⟨rfl, hsm, .inr ⟨g, 0, rfl, hlt, fun i hi j v hv => ?_⟩⟩, hnc, fun x e => by cases e; exact ⟨hb, rfl, hlt⟩⟩
    have hj : j < m := by
      have hi' : i < cs.length := hi
      have := (List.getElem?_eq_some_iff.1 hv).1
      rw [hwd (cs.getD i []) (by rw [List.getD_eq_getElem?_getD, List.getElem?_eq_getElem hi']; simp)] at this
      exact this
    have := hown.cells (g := g) rfl (i * m + j) v (by rw [flatten_get m cs hwd i j hi hj]; exact hv)
    rw [WideShapes.add_plain] at this
    rw [Nat.add_assoc]; exact this
/-- append(l, ..) of k elements that lie at ad. -/
theorem append_g {P : Program} {w : World} {ops : Array Oper} {rest : List Oper} {o : Oper} {a : Act} {Q : Exit → Act → World → Prop} (T t : TypeId) (z : Value) (m bytes : Nat) (hinfo : (P.info? t).map (fun i => (i.zero, i.size, i.bytes)) = some (some z, m, bytes)) (hzs : z.cells.size = m) (hm0 : 0 < m) (hT : P.underlying T = some (.slice t))
    (hgd : o.guard = none) (s x : Operand) (ho : o.op = .call { callee := .builtin .append, args := #[s, x], argTypes := #[T, T] })
    (base : Nat) (v : Value) (cs : List (List Value)) (hs : a.eval s = v) (hO : OwnG t m base w v cs) (ad : Addr) (k c : Nat) (ns : List (List Value)) (hk : ns.length = k) (hx : a.eval x = .slice (some ad) k c) (hw : ∀ u ∈ ns, u.length = m)
    (hnews : ∀ j u, ns.flatten[j]? = some u → w.cell? (ad.add j) = some u) (h1 : ∀ u ∈ ns.flatten, u.oneCell' = true)
    (h63 : cs.length + k ≤ maxLen) (hbytes : (cs.length + k) * bytes ≤ 140737488355328) (hbase : base ≤ w.heap.size)
    (h : ∀ v' w', OwnG t m base w' v' (cs ++ ns) → w.grownBy w' v.ownBlock → wpList P ops Q rest (a.put o.dst v') w') : wpList P ops Q (o :: rest) a w := by
  obtain ⟨i, hi, hz, hsz, hby⟩ := info_parts hinfo
  refine wpList_append_own w hgd s x T ho base t i z m bytes hT hi hz hsz hby hzs hm0 v cs.length cs.flatten hs hO.owns ad k c ns.flatten hx (by rw [flatten_len m ns hw, hk]) hnews h1 h63 hbytes hbase (fun v' w' h1 h2 _ => h v' w' ⟨?_, ?_, ?_⟩ h2)
  · rw [List.length_append, hk, List.flatten_append]; exact h1
  · rw [List.length_append, hk]; exact h63
  · intro c hc
    rcases List.mem_append.1 hc with hc | hc
    · exact hO.wide c hc
    · exact hw c hc
/-- append at a step of a region that draws. -/
theorem step_append_g {P : Program} {w : World} {ops : Array Oper} {o : Oper} {a : Act} {K : Act → World → Prop} {Q : Exit → Act → World → Prop} {E : Prop} (T t : TypeId) (z : Value) (m bytes : Nat) (hinfo : (P.info? t).map (fun i => (i.zero, i.size, i.bytes)) = some (some z, m, bytes)) (hzs : z.cells.size = m) (hm0 : 0 < m) (hT : P.underlying T = some (.slice t))
    (hgd : o.guard = none) (s x : Operand) (ho : o.op = .call { callee := .builtin .append, args := #[s, x], argTypes := #[T, T] })
    (base : Nat) (v : Value) (cs : List (List Value)) (hs : a.eval s = v) (hO : OwnG t m base w v cs) (ad : Addr) (k c : Nat) (ns : List (List Value)) (hk : ns.length = k) (hk0 : 0 < k) (hx : a.eval x = .slice (some ad) k c) (hw : ∀ u ∈ ns, u.length = m)
    (hnews : ∀ j u, ns.flatten[j]? = some u → w.cell? (ad.add j) = some u) (h1 : ∀ u ∈ ns.flatten, u.oneCell' = true)
    (h63 : cs.length + k ≤ maxLen) (hbytes : (cs.length + k) * bytes ≤ 140737488355328) (hbase : base ≤ w.heap.size)
    (h : ∀ g cap w', OwnG t m base w' (.slice (some ⟨g, 0, none⟩) (cs.length + k) cap) (cs ++ ns) → w.grownBy w' v.ownBlock → K (a.put o.dst (.slice (some ⟨g, 0, none⟩) (cs.length + k) cap)) w') : if Region.wanted o (yielded ops a.tmps) = true then Oper.wp P o a w K Q else E := by
  obtain ⟨i, hi, hz, hsz, hby⟩ := info_parts hinfo
  refine step_append_lies w hgd s x T ho base t i z m bytes hT hi hz hsz hby hzs hm0 v cs.length cs.flatten hs hO.owns ad k c ns.flatten hx (by rw [flatten_len m ns hw, hk]) hnews h1 (by omega) h63 hbytes hbase w.heap.size rfl (fun g cap w' h1 h2 _ _ => h g cap w' ⟨?_, ?_, ?_⟩ h2)
  · rw [List.length_append, hk, List.flatten_append]; exact h1
  · rw [List.length_append, hk]; exact h63
  · intro c hc
    rcases List.mem_append.1 hc with hc | hc
    · exact hO.wide c hc
    · exact hw c hc
end Go.Proofs.YtkdekdogfplbmaaDoor
