/- A map of the call's own from moments to yes or no, and a range over it. No program. -/
import Derived.Test.YtkdekdogfplbmaaDoorTurn
import Derived.Maps.RangeWalk
namespace Go.Proofs.YtkdekdogfplbmaaDoor
open Go.RowKit Go.Maps
set_option linter.unusedVariables false

def kz (z : Int) : Lit := .int .i64 z
theorem kz_key (z : Int) : WideAt.IsKeyLit (kz z) := trivial
theorem kz_ne {a b : Int} (h : a ≠ b) : kz a ≠ kz b := fun e => h (by simpa [kz] using e)
theorem kz_same (a b : Int) : (kz a).sameKey (kz b) = (a == b) := by
  by_cases h : a = b
  · subst h; rw [show (a == a) = true by simp]; exact WideAt.sameKey_self (kz_key a)
  · rw [sameKey_ne (kz_ne h)]; simp [h]
/-- What a map's datum holds, moment by moment. -/
structure Reads (D : DataW Unit) (m : Int → Option Bool) : Prop where
  isMap : IsMap D
  some_ : ∀ z v, m z = some v → has D (kz z) = true ∧ ∀ d, D.atKey (kz z) d = .lit (.bool v)
  none_ : ∀ z, m z = none → has D (kz z) = false
theorem Reads.has {D : DataW Unit} {m : Int → Option Bool} (h : Reads D m) (z : Int) : has D (kz z) = (m z).isSome := by
  cases e : m z with
  | none => rw [h.none_ z e]; rfl
  | some v => rw [(h.some_ z v e).1]; rfl
theorem Reads.empty : Reads (.map []) (fun _ => none) := ⟨isMap_empty, fun z v h => (by cases h), fun _ _ => rfl⟩
/-- laid in; struck out -/
def putM (m : Int → Option Bool) (a : Int) (v : Bool) : Int → Option Bool := fun z => if z = a then some v else m z
def delM (m : Int → Option Bool) (a : Int) : Int → Option Bool := fun z => if z = a then none else m z
theorem Reads.put {D : DataW Unit} {m : Int → Option Bool} (h : Reads D m) (a : Int) (v : Bool) : Reads (D.put (kz a) (.lit (.bool v))) (putM m a v) := by
  refine ⟨h.isMap.put _ _, fun z u hu => ?_, fun z hu => ?_⟩
  · unfold putM at hu
    by_cases e : z = a
    · subst e
      rw [if_pos rfl] at hu; cases hu
      exact ⟨has_put_same h.isMap (kz_key _) _, fun d => atKey_put_same h.isMap (kz_key _) _ d⟩
    · rw [if_neg e] at hu
      exact ⟨by rw [has_put_other (kz_ne e)]; exact (h.some_ z u hu).1, fun d => by rw [atKey_put_other (kz_ne e)]; exact (h.some_ z u hu).2 d⟩
  · unfold putM at hu
    by_cases e : z = a
    · rw [if_pos e] at hu; cases hu
    · rw [if_neg e] at hu
      rw [has_put_other (kz_ne e)]; exact h.none_ z hu
theorem Reads.del {D : DataW Unit} {m : Int → Option Bool} (h : Reads D m) (a : Int) : Reads (D.del (kz a)) (delM m a) := by
  refine ⟨h.isMap.del _, fun z u hu => ?_, fun z hu => ?_⟩
  · unfold delM at hu
    by_cases e : z = a
    · rw [if_pos e] at hu; cases hu
    · rw [if_neg e] at hu
      exact ⟨by rw [has_del_other (kz_ne e)]; exact (h.some_ z u hu).1, fun d => by rw [atKey_del_other (kz_ne e)]; exact (h.some_ z u hu).2 d⟩
  · unfold delM at hu
    by_cases e : z = a
    · subst e; exact has_del_same
    · rw [if_neg e] at hu
      rw [has_del_other (kz_ne e)]; exact h.none_ z hu
/-- An element that reads as a bool's datum is that bool. -/
theorem plainElem_bool_inv {P : Program} {e : TypeId} (he : P.underlying e = some .bool) {v : Value} {z : DataW Unit × List MemPlace} (h : plainElem P e v = some z) : ∃ a, v = .bool a ∧ z = (.lit (.bool a), []) := by
  unfold plainElem at h
  rw [he] at h
  cases v <;> simp at h
  exact ⟨_, rfl, h.symm⟩
/-- Block b is a map of at most n entries that holds m. -/
def MapB (P : Program) (tk tb : TypeId) (w : World) (b n : Nat) (m : Int → Option Bool) : Prop := ∃ D, w.ownsMap P tk (plainElem P tb) b n D ∧ Reads D m
section
variable {P : Program} {tk tb tm : TypeId} {w : World} {b n : Nat} {m : Int → Option Bool}
theorem MapB.made (w : World) : MapB P tk tb (w.alloc (.map #[] 0)) w.heap.size 0 (fun _ => none) := ⟨_, World.ownsMap_made _ _ _ _, Reads.empty⟩
theorem MapB.lt (h : MapB P tk tb w b n m) : b < w.heap.size := by obtain ⟨D, h1, _⟩ := h; exact h1.lt
theorem MapB.turn {S : Nat → Prop} {w' : World} (h : MapB P tk tb w b n m) (ht : Turn S w w') (hn : ¬ S b) : MapB P tk tb w' b n m := by
  have hl := h.lt
  obtain ⟨D, ⟨es, clock, hb, r⟩, h2⟩ := h
  exact ⟨D, ⟨es, clock, by rw [ht.block b hl hn]; exact hb, r⟩, h2⟩
theorem MapB.mono (h : MapB P tk tb w b n m) {n' : Nat} (hn : n ≤ n') : MapB P tk tb w b n' m := by obtain ⟨D, h1, h2⟩ := h; exact ⟨D, h1.mono hn, h2⟩
theorem MapB.drew (h : MapB P tk tb w b n m) : MapB P tk tb w.drew b n m := h
theorem wf64 {a : Int} (h : -9223372036854775808 ≤ a ∧ a ≤ 9223372036854775807) : (Lit.int .i64 a).wf = true := by
  simp [Lit.wf, IntKind.min, IntKind.max, IntKind.signed, IntKind.bits]; omega
theorem key64 (hk : P.underlying tk = some (.int .i64)) {a : Int} (h : -9223372036854775808 ≤ a ∧ a ≤ 9223372036854775807) : keyOf P tk (.int .i64 a) = some (kz a) := keyOf_int_mk hk (wf64 h)
end
section
variable {P : Program} (tk tb tm : TypeId) (hk : P.underlying tk = some (.int .i64)) (hb : P.underlying tb = some .bool) (hm : P.underlying tm = some (.map tk tb)) (hzero : ∀ w, (zeroValue tb).run P w = .ok (.bool false) w)
  {w : World} {ops : Array Oper} {rest : List Oper} {o : Oper} {a : Act} {Q : Exit → Act → World → Prop}
include hk hb hm hzero
/-- v, ok := m[k]: at the operation -/
theorem map_look (hg : o.guard = none) (mo x : Operand) (hop : o.op = Op.lookup tm mo x true) (b n : Nat) (m : Int → Option Bool) (hmv : a.eval mo = .map (some b)) (hM : MapB P tk tb w b n m)
    (z : Int) (hz : -9223372036854775808 ≤ z ∧ z ≤ 9223372036854775807) (hx : a.eval x = .int .i64 z)
    (hK : wpList P ops Q rest (a.put o.dst (.tuple #[.bool ((m z).getD false), .bool (m z).isSome])) w) : wpList P ops Q (o :: rest) a w := by
  obtain ⟨D, h1, h2⟩ := hM
  refine wpList_lookup_own_ok w hg mo x tm hop tk tb (int_keyed hk) hm (plainElem P tb) (hzero w) (.lit (.bool false)) [] (plainElem_bool hb false) b n D hmv h1 _ (kz z) hx (key64 hk hz) (fun v ps hv => ?_)
  obtain ⟨c, rfl, hc⟩ := plainElem_bool_inv hb hv
  rw [h2.has z]
  cases e : m z with
  | none =>
    rw [atKey_of_not_has (h2.none_ z e)] at hc
    simp at hc
    rw [e] at hK
    obtain ⟨rfl, _⟩ := hc
    exact hK
  | some v =>
    rw [(h2.some_ z v e).2] at hc
    simp at hc
    rw [e] at hK
    obtain ⟨rfl, _⟩ := hc
    exact hK
omit hzero in
/-- m[k] = v: at the operation -/
theorem map_put (hg : o.guard = none) (mo x vo : Operand) (hop : o.op = Op.mapUpdate tm mo x vo) (b n : Nat) (m : Int → Option Bool) (hmv : a.eval mo = .map (some b)) (hM : MapB P tk tb w b n m) (hn : n < 1000000)
    (z : Int) (v : Bool) (hz : -9223372036854775808 ≤ z ∧ z ≤ 9223372036854775807) (hx : a.eval x = .int .i64 z) (hv : a.eval vo = .bool v)
    (hK : ∀ w', MapB P tk tb w' b (n + 1) (putM m z v) → Turn (fun k => k = b) w w' → wpList P ops Q rest (a.put o.dst undef) w') : wpList P ops Q (o :: rest) a w := by
  obtain ⟨D, h1, h2⟩ := hM
  refine wpList_mapUpdate_own w hg mo x vo tm hop tk tb (int_keyed hk) hm (plainElem P tb) b n D hmv h1 (by unfold maxLen; omega) _ _ (kz z) hx hv (key64 hk hz) (.lit (.bool v)) [] (plainElem_bool hb v) (fun w' h3 h4 => ?_)
  exact hK w' ⟨_, h3, h2.put z v⟩ (Turn.ofGrown h4 (fun k e _ => by cases e; rfl))
omit hzero
/-- range m -/
def RangeB (P : Program) (tk tb : TypeId) (w : World) (b r n : Nat) (m : Int → Option Bool) (left : Int → Bool) (cnt : Nat) : Prop :=
  ∃ D lft, w.ranges P tk (plainElem P tb) b r n D lft cnt ∧ Reads D m ∧ ∀ z, lft (kz z) = left z
omit hk hb hm in
theorem RangeB.map {b r n cnt : Nat} {m : Int → Option Bool} {left : Int → Bool} (h : RangeB P tk tb w b r n m left cnt) : MapB P tk tb w b n m := by
  obtain ⟨D, lft, h1, h2, _⟩ := h; exact ⟨D, h1.owns, h2⟩
omit hk hb hm in
theorem RangeB.left_eq {b r n cnt : Nat} {m : Int → Option Bool} {left : Int → Bool} (h : RangeB P tk tb w b r n m left cnt) : w.rangeLeft b r = cnt := by
  obtain ⟨D, lft, h1, _⟩ := h; exact h1.left_eq
omit hb in
theorem map_range (hg : o.guard = none) (mo : Operand) (hop : o.op = Op.range tm mo) (b n : Nat) (m : Int → Option Bool) (hmv : a.eval mo = .map (some b)) (hM : MapB P tk tb w b n m)
    (hK : ∀ w' cnt, RangeB P tk tb w' b w.heap.size n m (fun z => (m z).isSome) cnt → Turn (fun _ => False) w w' → w'.heap.size = w.heap.size + 1 → wpList P ops Q rest (a.put o.dst (.pointer (some ⟨w.heap.size, 0, none⟩))) w') : wpList P ops Q (o :: rest) a w := by
  obtain ⟨D, h1, h2⟩ := hM
  exact wpList_range_own w hg mo tm hop tk tb (int_keyed hk) hm (plainElem P tb) b n D hmv h1 (fun w' h3 h4 h5 => hK w' _ ⟨D, _, h3, h2, h2.has⟩ (Turn.ofGrown h4 (fun k e => by cases e)) h5)
omit hm in
theorem map_next (hg : o.guard = none) (it : Operand) (hop : o.op = Op.next it false) (b r n : Nat) (m : Int → Option Bool) (left : Int → Bool) (cnt : Nat) (hit : a.eval it = .pointer (some ⟨r, 0, none⟩)) (h : RangeB P tk tb w b r n m left cnt)
    (hDone : (∀ z, left z = false) → wpList P ops Q rest (a.put o.dst (.tuple #[.bool false])) w)
    (hMore : ∀ (x : Int) (v : Value) w' cnt', (-9223372036854775808 ≤ x ∧ x ≤ 9223372036854775807) → left x = true → RangeB P tk tb w' b r n m (fun z => left z && !(z == x)) cnt' → cnt' < cnt → Turn (fun k => k = r) w w' →
      (Instr.entry (.pointer (some ⟨r, 0, none⟩))).run P w' = .ok (.tuple #[.int .i64 x, v]) w' → wpList P ops Q rest (a.put o.dst (.tuple #[.bool true, .int .i64 x, v])) w') : wpList P ops Q (o :: rest) a w := by
  obtain ⟨D, lft, h1, h2, h3⟩ := h
  refine wpList_next_ranges w hg it hop tk (int_keyed hk) (plainElem P tb) (Value.int .i64) Value.bool (fun key kl hkey => by obtain ⟨x, rfl, _⟩ := keyOf_int_inv hk hkey; exact ⟨x, rfl⟩) (fun v y hv => by obtain ⟨c, rfl, _⟩ := plainElem_bool_inv hb hv; exact ⟨c, rfl⟩)
    b r n D lft cnt hit h1 (fun _ hl => hDone (fun z => by rw [← h3]; exact hl _)) (fun x c kl y w' cnt' hkey hlk hv hat hrg hlt hgr hsz hen => ?_)
  obtain ⟨x', ex, rfl, hwx⟩ := keyOf_int_inv hk hkey
  cases ex
  refine hMore x (.bool c) w' cnt' (bounds_i64 hwx) (by rw [← h3]; exact hlk) ⟨D, _, hrg, h2, fun z => ?_⟩ hlt (Turn.ofGrown hgr (fun k e _ => by cases e; rfl)) hen
  rw [h3 z]
  show (left z && !(kz z).sameKey (kz x)) = _
  rw [kz_same]
omit hb in
theorem map_del (hg : o.guard = none) (mo x : Operand) (hop : o.op = Op.call { callee := Callee.builtin Builtin.delete, args := #[mo, x], argTypes := #[tm, tk] }) (b r n : Nat) (m : Int → Option Bool) (left : Int → Bool) (cnt : Nat)
    (hmv : a.eval mo = .map (some b)) (h : RangeB P tk tb w b r n m left cnt) (z : Int) (hz : -9223372036854775808 ≤ z ∧ z ≤ 9223372036854775807) (hx : a.eval x = .int .i64 z) (hl : left z = false)
    (hK : ∀ w' cnt', RangeB P tk tb w' b r n (delM m z) left cnt' → cnt' ≤ cnt → Turn (fun k => k = b) w w' → wpList P ops Q rest (a.put o.dst (.tuple #[])) w') : wpList P ops Q (o :: rest) a w := by
  obtain ⟨D, lft, h1, h2, h3⟩ := h
  refine wpList_delete_ranges w hg mo x tm tk hop tb (int_keyed hk) hm (plainElem P tb) b r n D lft cnt hmv h1 _ (kz z) hx (key64 hk hz) (fun w' cnt' h4 h5 h6 => hK w' cnt' ⟨_, _, h4, h2.del z, fun y => ?_⟩ h5 (Turn.ofGrown h6.grown (fun k e _ => by cases e; rfl)))
  show (lft (kz y) && !(kz y).sameKey (kz z)) = _
  rw [h3 y, kz_same]
  by_cases e : y = z
  · subst e; simp [hl]
  · simp [e]
end
end Go.Proofs.YtkdekdogfplbmaaDoor
