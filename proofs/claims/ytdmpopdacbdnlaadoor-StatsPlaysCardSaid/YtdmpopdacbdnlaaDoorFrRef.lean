/- The reference's items: slices of structs of a number, a byte and a text; appends. -/
import Derived.Test.YtdmpopdacbdnlaaDoorFrPG
import Derived.Laws.AppendOwnNone
import Derived.Deep.AppendLies
namespace Go.Proofs.YtdmpopdacbdnlaaDoor
open Go.RowKit
set_option linter.unusedVariables false
set_option linter.unusedSimpArgs false
/-- the cells of a list of items -/
def iv (l : List It) : List Value := l.flatMap fun x => [.int .i64 (x.skip : Int), .int .u8 (x.kind.toNat : Int), .string ⟨x.body.toArray⟩]
theorem iv_append (a b : List It) : iv (a ++ b) = iv a ++ iv b := by simp [iv]
theorem iv_length (l : List It) : (iv l).length = l.length * 3 := by induction l with | nil => rfl | cons a l ih => simp [iv] at *; omega
theorem iv_one (l : List It) : ∀ u ∈ iv l, u.oneCell' = true := by
  intro u hu
  simp only [iv, List.mem_flatMap] at hu
  obtain ⟨x, _, hx⟩ := hu
  simp at hx
  rcases hx with rfl | rfl | rfl <;> rfl
theorem iv_get (l : List It) (i : Nat) (hi : i < l.length) : (iv l)[i * 3]? = some (.int .i64 ((l.getD i It.no).skip : Int)) ∧ (iv l)[i * 3 + 1]? = some (.int .u8 ((l.getD i It.no).kind.toNat : Int)) ∧ (iv l)[i * 3 + 2]? = some (.string ⟨(l.getD i It.no).body.toArray⟩) := by
  induction l generalizing i with
  | nil => simp at hi
  | cons a l ih =>
    cases i with
    | zero => simp [iv]
    | succ k =>
      have := ih k (by simpa using hi)
      have e : iv (a :: l) = [.int .i64 (a.skip : Int), .int .u8 (a.kind.toNat : Int), .string ⟨a.body.toArray⟩] ++ iv l := by simp [iv]
      rw [e, show (k + 1) * 3 = 3 + k * 3 from by omega, show 3 + k * 3 + 1 = 3 + (k * 3 + 1) from by omega, show 3 + k * 3 + 2 = 3 + (k * 3 + 2) from by omega]
      have g : ∀ j, ([Value.int .i64 (a.skip : Int), .int .u8 (a.kind.toNat : Int), .string ⟨a.body.toArray⟩] ++ iv l)[3 + j]? = (iv l)[j]? := fun j => by rw [List.getElem?_append_right (by simp)]; simp
      rw [g, g, g]
      simpa using this
/-- A slice of items that may be read. -/
structure RowR (w : World) (q : Option Addr) (n c : Nat) (its : List It) : Prop where
  length : its.length = n
  le : n ≤ c
  small : c ≤ maxLen
  nil : q = none → c = 0
  at_ : n = 0 ∨ ∃ b off, q = some ⟨b, off, none⟩ ∧ b < w.heap.size ∧ ∀ i, i < n → w.cell? ⟨b, off + i * 3, none⟩ = some (.int .i64 ((its.getD i It.no).skip : Int)) ∧ w.cell? ⟨b, off + i * 3 + 1, none⟩ = some (.int .u8 ((its.getD i It.no).kind.toNat : Int)) ∧ w.cell? ⟨b, off + i * 3 + 2, none⟩ = some (.string ⟨(its.getD i It.no).body.toArray⟩)
theorem RowR.none (w : World) : RowR w none 0 0 [] := ⟨rfl, Nat.le_refl _, Nat.zero_le _, fun _ => rfl, .inl rfl⟩
theorem RowR.turn {S : Nat → Prop} {w w' : World} {q : Option Addr} {n c : Nat} {its : List It} (h : RowR w q n c its) (t : Turn S w w') (ho : Off S q) : RowR w' q n c its :=
  ⟨h.length, h.le, h.small, h.nil, h.at_.imp id (fun ⟨b, off, e, hb, hi⟩ => by
    subst e
    have hn := ho ⟨b, off, Option.none⟩ rfl
    exact ⟨b, off, rfl, Nat.lt_of_lt_of_le hb t.size, fun i hin => by
      obtain ⟨c0, c1, c2⟩ := hi i hin
      exact ⟨(t.cell (p := ⟨b, off + i * 3, Option.none⟩) hb hn).trans c0, (t.cell (p := ⟨b, off + i * 3 + 1, Option.none⟩) hb hn).trans c1, (t.cell (p := ⟨b, off + i * 3 + 2, Option.none⟩) hb hn).trans c2⟩⟩)⟩
theorem RowR.below {w w' : World} {q : Option Addr} {n c : Nat} {its : List It} (h : RowR w q n c its) (hb : Below w.heap.size w w') : RowR w' q n c its :=
  h.turn (Turn.ofBelow (S := fun _ => False) hb rfl) (fun _ _ h => h)
theorem RowR.tail {w : World} {b off n c : Nat} {x : It} {its : List It} (h : RowR w (some ⟨b, off, Option.none⟩) n c (x :: its)) (hc : 1 < c) : RowR w (some ⟨b, off + 3, Option.none⟩) (n - 1) (c - 1) its := by
  have hl := h.length
  have hle := h.le
  have hs := h.small
  simp at hl
  refine ⟨by omega, by omega, by omega, fun e => (by cases e), ?_⟩
  rcases h.at_ with h0 | ⟨b', off', e, hb, hi⟩
  · omega
  cases e
  refine .inr ⟨b, off + 3, rfl, hb, fun i hin => ?_⟩
  have := hi (i + 1) (by omega)
  have e3 : off + 3 + i * 3 = off + (i + 1) * 3 := by omega
  rw [e3]
  exact this
/-- A slice of items of the call's own. -/
structure OwnR (t : TypeId) (base : Nat) (w : World) (v : Value) (l : List It) : Prop where
  owns : w.ownsRow base t 3 v l.length (iv l)
  small : l.length ≤ maxLen
theorem OwnR.nil (t : TypeId) (base : Nat) (w : World) : OwnR t base w (.slice none 0 0) [] := ⟨World.ownsRow_nil w base t 3, Nat.zero_le _⟩
theorem OwnR.below {t : TypeId} {base : Nat} {w w' : World} {v : Value} {l : List It} (h : OwnR t base w v l) (hb : Below w.heap.size w w') : OwnR t base w' v l :=
  ⟨h.owns.kept (row := Option.none) ⟨hb.os, hb.tape, hb.output, hb.size, fun k hk _ => hb.block k hk⟩ (by cases v.ownBlock <;> simp), h.small⟩
theorem OwnR.kept {t : TypeId} {base : Nat} {w w' : World} {v : Value} {l : List It} (h : OwnR t base w v l) {row : Option Nat} (hg : w.grownBy w' row) (hne : v.ownBlock = Option.none ∨ v.ownBlock ≠ row) : OwnR t base w' v l := ⟨h.owns.kept hg hne, h.small⟩
theorem OwnR.row {t : TypeId} {base : Nat} {w : World} {v : Value} {l : List It} (h : OwnR t base w v l) : ∃ q c, v = .slice q l.length c ∧ RowR w q l.length c l ∧ ∀ x, q = some x → base ≤ x.block ∧ x.block < w.heap.size := by
  have hlt := h.owns.lt
  have hcell := fun {g : Nat} (e : v.ownBlock = some g) => h.owns.cells e
  obtain ⟨_, hv⟩ := h.owns
  rcases hv with ⟨rfl, h0⟩ | ⟨g, cap, cur, rfl, hb, _, hn, hm, _⟩
  · have : l = [] := List.eq_nil_of_length_eq_zero h0
    subst this
    exact ⟨Option.none, 0, rfl, RowR.none w, fun x e => by cases e⟩
  · refine ⟨_, cap, rfl, ⟨rfl, hn, hm, fun e => (by cases e), .inr ⟨g, 0, rfl, (hlt g rfl).2, fun i hi => ?_⟩⟩, fun x e => by cases e; exact hlt g rfl⟩
    obtain ⟨c0, c1, c2⟩ := iv_get l i hi
    have f := hcell (g := g) rfl
    have d0 := f _ _ c0
    have d1 := f _ _ c1
    have d2 := f _ _ c2
    rw [WideShapes.add_plain] at d0 d1 d2
    exact ⟨d0, by rw [Nat.add_assoc]; exact d1, by rw [Nat.add_assoc]; exact d2⟩
/-- append(l, items...) -/
theorem append_items {P : Program} {w : World} {ops : Array Oper} {rest : List Oper} {o : Oper} {a : Act} {Q : Exit → Act → World → Prop} (T t : TypeId) (z : Value) (B : Nat) (hinfo : (P.info? t).map (fun i => (i.zero, i.size, i.bytes)) = some (some z, 3, B)) (hzs : z.cells.size = 3) (hT : P.underlying T = some (.slice t))
    (hgd : o.guard = Option.none) (s x : Operand) (ho : o.op = .call { callee := .builtin .append, args := #[s, x], argTypes := #[T, T] })
    (base : Nat) (v : Value) (l : List It) (hs : a.eval s = v) (hO : OwnR t base w v l) (q : Option Addr) (m c : Nat) (ys : List It) (hx : a.eval x = .slice q m c) (hrow : RowR w q m c ys)
    (hroom : l.length + m ≤ 1000000) (hB : B ≤ 1000) (hbase : base ≤ w.heap.size)
    (h : ∀ v' w', OwnR t base w' v' (l ++ ys) → w.grownBy w' v.ownBlock → wpList P ops Q rest (a.put o.dst v') w') : wpList P ops Q (o :: rest) a w := by
  obtain ⟨i, hi, hz, hsz, hby⟩ := info_parts hinfo
  have hm := hrow.length
  have hbb : (l.length + m) * B ≤ 140737488355328 := by
    have := Nat.mul_le_mul hroom hB
    omega
  have fin : ∀ (v' : Value) (w' : World), w'.ownsRow base t 3 v' (l.length + m) (iv l ++ iv ys) → w.grownBy w' v.ownBlock → wpList P ops Q rest (a.put o.dst v') w' :=
    fun v' w' h1 h2 => h v' w' ⟨by rw [iv_append, List.length_append, hm]; exact h1, by rw [List.length_append]; unfold maxLen; omega⟩ h2
  cases q with
  | none =>
    have hc0 := hrow.nil rfl
    subst hc0
    have hm0 : m = 0 := by have := hrow.le; omega
    subst hm0
    have hb0 : ys = [] := List.eq_nil_of_length_eq_zero hm
    subst hb0
    refine wpList_append_own_none hgd s x T ho base t i 3 hT hi v l.length (iv l) hs hO.owns hx ?_
    exact fin v w (by simpa [iv] using hO.owns) ⟨rfl, rfl, rfl, Nat.le_refl _, fun _ _ _ => rfl⟩
  | some ad =>
    refine wpList_append_own w hgd s x T ho base t i _ 3 B hT hi hz hsz hby hzs (by omega) v l.length (iv l) hs hO.owns ad m c (iv ys) hx (by rw [iv_length, hm]) ?_ (iv_one ys) (by unfold maxLen; omega) hbb hbase (fun v' w' h1 h2 _ => fin v' w' h1 h2)
    intro j u hu
    have hj : j < ys.length * 3 := by
      have := (List.getElem?_eq_some_iff.1 hu).1
      rw [iv_length] at this; exact this
    rcases hrow.at_ with h0 | ⟨b, off, e, _, hc⟩
    · omega
    · cases e
      obtain ⟨k, r, rfl, hr⟩ : ∃ k r, j = k * 3 + r ∧ r < 3 := ⟨j / 3, j % 3, by omega, Nat.mod_lt _ (by omega)⟩
      obtain ⟨f0, f1, f2⟩ := iv_get ys k (by omega)
      obtain ⟨c0, c1, c2⟩ := hc k (by omega)
      rw [WideShapes.add_plain, ← Nat.add_assoc]
      match r, hr with
      | 0, _ => rw [Nat.add_zero] at hu; rw [f0] at hu; cases hu; exact c0
      | 1, _ => rw [f1] at hu; cases hu; exact c1
      | 2, _ => rw [f2] at hu; cases hu; exact c2
/-- one item laid by itself -/
theorem RowR.one (w : World) (x : It) (t : TypeId) : RowR (w.alloc (.cells #[.int .i64 (x.skip : Int), .int .u8 (x.kind.toNat : Int), .string ⟨x.body.toArray⟩] t)) (some ⟨w.heap.size, 0, Option.none⟩) 1 1 [x] :=
  ⟨rfl, Nat.le_refl _, by decide, fun e => (by cases e), .inr ⟨w.heap.size, 0, rfl, by simp, fun i hi => by
    obtain rfl : i = 0 := by omega
    exact ⟨by simp [go_sem], by simp [go_sem], by simp [go_sem]⟩⟩⟩
/-- append(l, item) at a step of a region that draws -/
theorem step_append_item {P : Program} {w : World} {ops : Array Oper} {o : Oper} {a : Act} {K : Act → World → Prop} {Q : Exit → Act → World → Prop} {E : Prop} (T t : TypeId) (z : Value) (B : Nat) (hinfo : (P.info? t).map (fun i => (i.zero, i.size, i.bytes)) = some (some z, 3, B)) (hzs : z.cells.size = 3) (hT : P.underlying T = some (.slice t))
    (hgd : o.guard = Option.none) (s x : Operand) (ho : o.op = .call { callee := .builtin .append, args := #[s, x], argTypes := #[T, T] })
    (base : Nat) (v : Value) (l : List It) (hs : a.eval s = v) (hO : OwnR t base w v l) (A c : Nat) (y : It) (hx : a.eval x = .slice (some ⟨A, 0, Option.none⟩) 1 c) (d0 : w.cell? ⟨A, 0, Option.none⟩ = some (.int .i64 (y.skip : Int))) (d1 : w.cell? ⟨A, 1, Option.none⟩ = some (.int .u8 (y.kind.toNat : Int))) (d2 : w.cell? ⟨A, 2, Option.none⟩ = some (.string ⟨y.body.toArray⟩))
    (hroom : l.length ≤ 1000000) (hB : B ≤ 1000) (hbase : base ≤ w.heap.size)
    (h : ∀ g cap w', OwnR t base w' (.slice (some ⟨g, 0, Option.none⟩) (l.length + 1) cap) (l ++ [y]) → w.grownBy w' v.ownBlock → K (a.put o.dst (.slice (some ⟨g, 0, Option.none⟩) (l.length + 1) cap)) w') : if Region.wanted o (yielded ops a.tmps) = true then Oper.wp P o a w K Q else E := by
  obtain ⟨i, hi, hz, hsz, hby⟩ := info_parts hinfo
  have hbb : (l.length + 1) * B ≤ 140737488355328 := by
    have := Nat.mul_le_mul (show l.length + 1 ≤ 1000001 by omega) hB
    omega
  refine step_append_lies w hgd s x T ho base t i _ 3 B hT hi hz hsz hby hzs (by omega) v l.length (iv l) hs hO.owns ⟨A, 0, Option.none⟩ 1 c (iv [y]) hx (by simp [iv]) (fun j u hj => ?_) (iv_one _) (by omega) (by unfold maxLen; omega) hbb hbase w.heap.size rfl (fun g cap w' h1 h2 _ _ => h g cap w' ⟨by rw [iv_append]; simpa using h1, by simp; unfold maxLen; omega⟩ h2)
  rw [WideShapes.add_plain, Nat.zero_add]
  match j with
  | 0 => simp [iv] at hj; subst hj; exact d0
  | 1 => simp [iv] at hj; subst hj; exact d1
  | 2 => simp [iv] at hj; subst hj; exact d2
  | j + 3 => simp [iv] at hj
theorem infoRI : (Tryd.prog.info? 43).map (fun i => (i.zero, i.size, i.bytes)) = some (some (.agg #[.int .i64 0, .int .u8 0, .string ⟨#[]⟩]), 3, 32) := by kernel_rfl
end Go.Proofs.YtdmpopdacbdnlaaDoor
