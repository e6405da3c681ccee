/- Slices of the call's own: of integers, of sources; an append of one element. -/
import Derived.Test.YtkdekdogfplbmaaMarkRun
namespace Go.Proofs.Ytkdekdogfplbmaa
open Go.RowKit
set_option linter.unusedVariables false

/-- append of one element of `size` cells to a slice of the call's own. -/
theorem append_one {P : Program} {w : World} {ops : Array Oper} {rest : List Oper} {o : Oper} {a : Act} {Q : Exit → Act → World → Prop} (T t : TypeId) (z : Value) (size bytes : Nat) (hinfo : (P.info? t).map (fun i => (i.zero, i.size, i.bytes)) = some (some z, size, bytes)) (hzs : z.cells.size = size) (hsz0 : 0 < size) (hT : P.underlying T = some (.slice t))
    (hgd : o.guard = none) (s x : Operand) (ho : o.op = .call { callee := .builtin .append, args := #[s, x], argTypes := #[T, T] })
    (base : Nat) (v : Value) (n : Nat) (xs : List Value) (hs : a.eval s = v) (hown : w.ownsRow base t size v n xs) (ad : Addr) (c : Nat) (news : List Value) (hx : a.eval x = .slice (some ad) 1 c) (hl : news.length = size) (hnews : ∀ j u, news[j]? = some u → w.cell? (ad.add j) = some u) (h1 : ∀ u ∈ news, u.oneCell' = true)
    (h63 : n + 1 ≤ maxLen) (hbytes : (n + 1) * bytes ≤ 140737488355328) (hbase : base ≤ w.heap.size)
    (h : ∀ v' w', w'.ownsRow base t size v' (n + 1) (xs ++ news) → w.grownBy w' v.ownBlock → wpList P ops Q rest (a.put o.dst v') w') : wpList P ops Q (o :: rest) a w := by
  obtain ⟨i, hi, hz, hsz, hby⟩ := info_parts hinfo
  exact wpList_append_own w hgd s x T ho base t i z size bytes hT hi hz hsz hby hzs hsz0 v n xs hs hown ad 1 c news hx (by rw [hl, Nat.one_mul]) hnews h1 h63 hbytes hbase (fun v' w' h1 h2 _ => h v' w' h1 h2)

/-- the cells of a list of sources -/
def sv (l : List Src) : List Value := l.flatMap fun s => [.bool s.active, .int .i64 s.low, .bool s.has, .int .i64 s.head]
theorem sv_append (a b : List Src) : sv (a ++ b) = sv a ++ sv b := by simp [sv]
theorem sv_length (l : List Src) : (sv l).length = l.length * 4 := by induction l with | nil => rfl | cons a l ih => simp [sv] at *; omega
theorem sv_get (l : List Src) (i : Nat) (hi : i < l.length) : (sv l)[i * 4]? = some (.bool (l.getD i default).active) ∧ (sv l)[i * 4 + 1]? = some (.int .i64 (l.getD i default).low) ∧ (sv l)[i * 4 + 2]? = some (.bool (l.getD i default).has) ∧ (sv l)[i * 4 + 3]? = some (.int .i64 (l.getD i default).head) := by
  induction l generalizing i with
  | nil => simp at hi
  | cons a l ih =>
    cases i with
    | zero => simp [sv]
    | succ k =>
      have := ih k (by simpa using hi)
      have e : sv (a :: l) = [.bool a.active, .int .i64 a.low, .bool a.has, .int .i64 a.head] ++ sv l := by simp [sv]
      rw [e, show (k + 1) * 4 = 4 + k * 4 from by omega, show 4 + k * 4 + 1 = 4 + (k * 4 + 1) from by omega, show 4 + k * 4 + 2 = 4 + (k * 4 + 2) from by omega, show 4 + k * 4 + 3 = 4 + (k * 4 + 3) from by omega]
      have g : ∀ j, ([Value.bool a.active, .int .i64 a.low, .bool a.has, .int .i64 a.head] ++ sv l)[4 + j]? = (sv l)[j]? := fun j => by rw [List.getElem?_append_right (by simp)]; simp
      rw [g, g, g, g]
      simpa using this
/-- A slice of sources of the call's own. -/
structure OwnS (t : TypeId) (base : Nat) (w : World) (v : Value) (l : List Src) : Prop where
  owns : w.ownsRow base t 4 v l.length (sv l)
  small : l.length ≤ maxLen
theorem OwnS.row {t : TypeId} {base : Nat} {w : World} {v : Value} {l : List Src} (h : OwnS t base w v l) (hok : ∀ s ∈ l, s.ok) : ∃ q cap, v = .slice q l.length cap ∧ RowS w q l.length l := by
  have hlt := h.owns.lt
  have hcell := fun {g : Nat} (e : v.ownBlock = some g) => h.owns.cells e
  obtain ⟨_, hv⟩ := h.owns
  rcases hv with ⟨rfl, h0⟩ | ⟨g, cap, cur, rfl, hb, _⟩
  · exact ⟨none, 0, by rw [h0], ⟨rfl, h.small, hok, .inl h0⟩⟩
  · refine ⟨_, cap, rfl, ⟨rfl, h.small, hok, .inr ⟨g, 0, rfl, (hlt g rfl).2, fun i hi => ?_⟩⟩⟩
    obtain ⟨c0, c1, c2, c3⟩ := sv_get l i hi
    have f := hcell (g := g) rfl
    have d0 := f _ _ c0
    have d1 := f _ _ c1
    have d2 := f _ _ c2
    have d3 := f _ _ c3
    rw [WideShapes.add_plain] at d0 d1 d2 d3
    exact ⟨d0, by rw [Nat.add_assoc]; exact d1, by rw [Nat.add_assoc]; exact d2, by rw [Nat.add_assoc]; exact d3⟩
theorem OwnS.below {t : TypeId} {base : Nat} {w w' : World} {v : Value} {l : List Src} (h : OwnS t base w v l) (hb : Below w.heap.size w w') : OwnS t base w' v l :=
  ⟨h.owns.kept (row := none) ⟨hb.os, hb.tape, hb.output, hb.size, fun k hk _ => hb.block k hk⟩ (by cases v.ownBlock <;> simp), h.small⟩
/-- the cells of one source at an address -/
def SrcAt (w : World) (ad : Addr) (x : Src) : Prop := w.cell? (ad.add 0) = some (.bool x.active) ∧ w.cell? (ad.add 1) = some (.int .i64 x.low) ∧ w.cell? (ad.add 2) = some (.bool x.has) ∧ w.cell? (ad.add 3) = some (.int .i64 x.head)
/-- append of one source to a slice of sources of the call's own. -/
theorem append_src {P : Program} {w : World} {ops : Array Oper} {rest : List Oper} {o : Oper} {a : Act} {Q : Exit → Act → World → Prop} (T t : TypeId) (hinfo : (P.info? t).map (fun i => (i.zero, i.size, i.bytes)) = some (some (.agg #[.bool false, .int .i64 0, .bool false, .int .i64 0]), 4, 32)) (hT : P.underlying T = some (.slice t))
    (hgd : o.guard = none) (s x : Operand) (ho : o.op = .call { callee := .builtin .append, args := #[s, x], argTypes := #[T, T] })
    (base : Nat) (v : Value) (l : List Src) (hs : a.eval s = v) (hO : OwnS t base w v l) (ad : Addr) (c : Nat) (y : Src) (hx : a.eval x = .slice (some ad) 1 c) (hy : SrcAt w ad y)
    (hroom : l.length ≤ 1000000) (hbase : base ≤ w.heap.size)
    (h : ∀ v' w', OwnS t base w' v' (l ++ [y]) → w.grownBy w' v.ownBlock → wpList P ops Q rest (a.put o.dst v') w') : wpList P ops Q (o :: rest) a w := by
  refine append_one T t _ 4 32 hinfo rfl (by omega) hT hgd s x ho base v l.length (sv l) hs hO.owns ad c (sv [y]) hx (by simp [sv]) (fun j u hj => ?_) (by simp [sv, Value.oneCell']) (by unfold maxLen; omega) (by omega) hbase (fun v' w' h1 h2 => h v' w' ⟨by rw [sv_append]; simpa using h1, by simp; unfold maxLen; omega⟩ h2)
  obtain ⟨c0, c1, c2, c3⟩ := hy
  match j with
  | 0 => simp [sv] at hj; subst hj; exact c0
  | 1 => simp [sv] at hj; subst hj; exact c1
  | 2 => simp [sv] at hj; subst hj; exact c2
  | 3 => simp [sv] at hj; subst hj; exact c3
  | j + 4 => simp [sv] at hj
end Go.Proofs.Ytkdekdogfplbmaa
