/- Small words of our own: a slice that reads as a list of numbers. No program. -/
import Derived.WalkKit
import Derived.ProofKit
import Derived.OpenShut
import Derived.Below
import Derived.Lib.Hide
import Derived.Laws.IdiomStrings
import Derived.Laws.BytesArg
import Derived.Laws.AppendOwnNone
import Derived.OwnWalk
namespace Go.Proofs.YtegbjlimiephlaaDoor
open Go.RowKit

theorem ret_int {k : IntKind} {a b : Int} (h : a = b) : Ending.returned (.int k a) = .returned (.int k b) := by rw [h]
theorem ret_bool {a b : Bool} (h : a = b) : Ending.returned (.bool a) = .returned (.bool b) := by rw [h]
theorem bcell {W w1 : World} (hb : Below W.heap.size W w1) : (∀ b o, b < W.heap.size → w1.cell? ⟨b, o, none⟩ = W.cell? ⟨b, o, none⟩) ∧ (∀ b o, b < W.heap.size → w1.frozen? ⟨b, o, none⟩ = W.frozen? ⟨b, o, none⟩) :=
  ⟨fun b o h => hb.cell (p := ⟨b, o, none⟩) h, fun b o h => hb.frozen (p := ⟨b, o, none⟩) h⟩

/-- A slice of integers that may be read: its elements are zs. -/
structure RowI (k : IntKind) (w : World) (a : Option Addr) (len cap : Nat) (zs : List Int) : Prop where
  length : zs.length = len
  small : len ≤ maxLen
  le : len ≤ cap
  wf : ∀ n ∈ zs, (Lit.int k n).wf = true
  at_ : len = 0 ∨ ∃ b off, a = some ⟨b, off, none⟩ ∧ b < w.heap.size ∧ ∀ i, i < len → w.cell? ⟨b, off + i, none⟩ = some (.int k (zs.getD i 0))
  nil : a = none → cap = 0

/-- It is read alike in a world that is as the elder one below. -/
theorem RowI.below {k : IntKind} {w w' : World} {a : Option Addr} {len cap : Nat} {zs : List Int} (h : RowI k w a len cap zs) (hb : Below w.heap.size w w') : RowI k w' a len cap zs :=
  ⟨h.length, h.small, h.le, h.wf, by
    rcases h.at_ with h0 | ⟨b, off, rfl, hl, hc⟩
    · exact .inl h0
    · exact .inr ⟨b, off, rfl, Nat.lt_of_lt_of_le hl hb.size, fun i hi => by rw [(bcell hb).1 _ _ hl]; exact hc i hi⟩, h.nil⟩

/-- What the row's frame hands over. -/
def IsRow (k : IntKind) (w : World) (a : Option Addr) (len cap : Nat) (zs : List Int) : Prop :=
  (a = none ∧ len = 0 ∧ cap = 0 ∧ zs = []) ∨
  ∃ x, a = some x ∧ len ≤ cap ∧ cap ≤ maxLen ∧ zs.length = cap ∧ (∀ i, i < zs.length → w.cell? (x.add i) = some (.int k (zs.getD i 0))) ∧ ∀ n ∈ zs, (Lit.int k n).wf = true

theorem IsRow.row {k : IntKind} {w : World} {a : Option Addr} {len cap : Nat} {zs : List Int} (h : IsRow k w a len cap zs) : RowI k w a len cap (zs.take len) := by
  rcases h with ⟨rfl, rfl, rfl, rfl⟩ | ⟨x, rfl, hl, hm, hz, hc, hw⟩
  · exact ⟨rfl, by decide, Nat.le_refl _, fun n hn => (List.not_mem_nil hn).elim, .inl rfl, fun _ => rfl⟩
  · refine ⟨by rw [List.length_take]; omega, Nat.le_trans hl hm, hl, fun n hn => hw n (List.mem_of_mem_take hn), ?_, fun e => by cases e⟩
    by_cases h0 : len = 0
    · exact .inl h0
    · obtain ⟨b, off, rfl, hc'⟩ := ints_at hc (by omega)
      refine .inr ⟨b, off, rfl, ?_, fun i hi => ?_⟩
      · exact World.block_lt_of_cell? w ⟨b, off + 0, none⟩ (hc' 0 (by omega))
      · rw [hc' i (by omega)]; simp [List.getD, hi]

theorem RowI.range {w : World} {a : Option Addr} {len cap : Nat} {zs : List Int} (h : RowI .i64 w a len cap zs) (j : Nat) : -9223372036854775808 ≤ zs.getD j 0 ∧ zs.getD j 0 ≤ 9223372036854775807 := by
  have := range_i64 h.wf j
  simpa [List.getD] using this

/-- A slice of bytes that may be read. -/
structure RowB (w : World) (a : Option Addr) (len cap : Nat) (bs : List UInt8) : Prop where
  length : bs.length = len
  small : len ≤ maxLen
  le : len ≤ cap
  at_ : len = 0 ∨ ∃ b off, a = some ⟨b, off, none⟩ ∧ b < w.heap.size ∧ ∀ i, i < len → w.cell? ⟨b, off + i, none⟩ = some (.int .u8 ((bs.getD i 0).toNat : Int))
  nil : a = none → cap = 0
theorem RowB.below {w w' : World} {a : Option Addr} {len cap : Nat} {bs : List UInt8} (h : RowB w a len cap bs) (hb : Below w.heap.size w w') : RowB w' a len cap bs :=
  ⟨h.length, h.small, h.le, by
    rcases h.at_ with h0 | ⟨b, off, rfl, hl, hc⟩
    · exact .inl h0
    · exact .inr ⟨b, off, rfl, Nat.lt_of_lt_of_le hl hb.size, fun i hi => by rw [(bcell hb).1 _ _ hl]; exact hc i hi⟩, h.nil⟩
def bytesOf (zs : List Int) : List UInt8 := zs.map fun z => UInt8.ofNat z.toNat
theorem RowI.bytes {w : World} {a : Option Addr} {len cap : Nat} {zs : List Int} (h : RowI .u8 w a len cap zs) : RowB w a len cap (bytesOf zs) := by
  refine ⟨by simp [bytesOf, h.length], h.small, h.le, ?_, h.nil⟩
  rcases h.at_ with h0 | ⟨b, off, rfl, hl, hc⟩
  · exact .inl h0
  · refine .inr ⟨b, off, rfl, hl, fun i hi => ?_⟩
    rw [hc i hi]
    have hi' : i < zs.length := by rw [h.length]; exact hi
    have hw := bounds_u8 (h.wf zs[i] (List.getElem_mem hi'))
    have e1 : zs.getD i 0 = zs[i] := by simp [List.getD, hi']
    have e2 : (bytesOf zs).getD i 0 = UInt8.ofNat zs[i].toNat := by simp [bytesOf, List.getD, hi']
    rw [e1, e2]
    have : ((UInt8.ofNat zs[i].toNat).toNat : Int) = zs[i] := by
      rw [UInt8.toNat_ofNat']; omega
    rw [this]
theorem IsRow.bytes {w : World} {a : Option Addr} {len cap : Nat} {zs : List Int} (h : IsRow .u8 w a len cap zs) : RowB w a len cap (bytesOf (zs.take len)) := h.row.bytes
theorem getD_eq {l : List UInt8} {i : Nat} (h : i < l.length) : l.getD i 0 = l[i] := by simp [List.getD, h]
theorem take_succ' {l : List UInt8} {i : Nat} (h : i < l.length) : l.take (i + 1) = l.take i ++ [l.getD i 0] := by
  rw [List.take_succ_eq_append_getElem h, getD_eq h]

/-- string(b) of a slice that may be read. -/
theorem RowB.conv {P : Program} {w : World} {a : Option Addr} {len cap : Nat} {bs : List UInt8} (h : RowB w a len cap bs) (src dst e : TypeId)
    (hs : P.underlying src = some (.slice e)) (he : P.underlying e = some (.int .u8)) (hd : P.underlying dst = some .string) :
    (convert src dst (.slice a len cap)).run P w = .ok (.string ⟨bs.toArray⟩) w := by
  have hl := h.length
  rcases h.at_ with h0 | ⟨b, off, rfl, _, hc⟩
  · have hbs : bs = [] := List.eq_nil_of_length_eq_zero (by omega)
    subst hbs
    subst h0
    cases a with
    | none => exact run_convert_bytes_nil w src e hs he 0 cap dst hd
    | some x => exact run_convert_bytes_back w src dst e x cap [] hs he hd (fun j hj => absurd hj (Nat.not_lt_zero _))
  · rw [← hl]
    refine run_convert_bytes_back w src dst e ⟨b, off, none⟩ cap bs hs he hd (fun j hj => ?_)
    rw [WideShapes.add_plain, hc j (by omega), getD_eq hj]
/-- Three new bytes. -/
theorem RowB.three (w : World) (x y z : Nat) (t : TypeId) (hx : x < 256) (hy : y < 256) (hz : z < 256) {c0 c1 c2 : Int} (h0 : c0 = x) (h1 : c1 = y) (h2 : c2 = z) :
    RowB (w.alloc (.cells #[.int .u8 c0, .int .u8 c1, .int .u8 c2] t)) (some ⟨w.heap.size, 0, none⟩) 3 3 [UInt8.ofNat x, UInt8.ofNat y, UInt8.ofNat z] := by
  subst h0 h1 h2
  refine ⟨rfl, by decide, Nat.le_refl _, .inr ⟨_, _, rfl, by simp, fun i hi => ?_⟩, fun e => by cases e⟩
  have : i = 0 ∨ i = 1 ∨ i = 2 := by omega
  rcases this with rfl | rfl | rfl
  · simp; omega
  · simp; omega
  · simp; omega
theorem RowB.three_at {w : World} {b : Nat} {p q r : UInt8} (h : RowB w (some ⟨b, 0, none⟩) 3 3 [p, q, r]) :
    w.cell? ⟨b, 0, none⟩ = some (.int .u8 (p.toNat : Int)) ∧ w.cell? ⟨b, 1, none⟩ = some (.int .u8 (q.toNat : Int)) ∧ w.cell? ⟨b, 2, none⟩ = some (.int .u8 (r.toNat : Int)) := by
  rcases h.at_ with h0 | ⟨b', off, hbo, _, hc⟩
  · cases h0
  · simp only [Option.some.injEq, Addr.mk.injEq] at hbo
    obtain ⟨rfl, rfl, _⟩ := hbo
    exact ⟨hc 0 (by omega), hc 1 (by omega), hc 2 (by omega)⟩
/-- Three bytes are three others, or not: told by the first that is unlike. -/
theorem three_ways (x y z p q r : UInt8) : (x = p ∧ y = q ∧ z = r) ∨ (((x.toNat : Int) == (p.toNat : Int)) = false ∧ [p, q, r] ≠ [x, y, z]) ∨ (x = p ∧ ((y.toNat : Int) == (q.toNat : Int)) = false ∧ [p, q, r] ≠ [x, y, z]) ∨ (x = p ∧ y = q ∧ ((z.toNat : Int) == (r.toNat : Int)) = false ∧ [p, q, r] ≠ [x, y, z]) := by
  have ne : ∀ a b : UInt8, a ≠ b → ((a.toNat : Int) == (b.toNat : Int)) = false := fun a b h => by
    rw [beq_eq_false_iff_ne]; intro e; exact h (UInt8.toNat_inj.1 (by omega))
  by_cases hx : x = p
  · by_cases hy : y = q
    · by_cases hz : z = r
      · exact .inl ⟨hx, hy, hz⟩
      · exact .inr (.inr (.inr ⟨hx, hy, ne _ _ hz, by simp; intro _ _ e; exact hz e.symm⟩))
    · exact .inr (.inr (.inl ⟨hx, ne _ _ hy, by simp; intro _ e; exact (hy e.symm).elim⟩))
  · exact .inr (.inl ⟨ne _ _ hx, by simp; intro e; exact (hx e.symm).elim⟩)
/-- A new block of bytes, whatever its mark. -/
theorem RowB.newM (w : World) (l : List UInt8) (cs : Array Value) (t : TypeId) (fr : Nat × Nat) (hcs : cs = (l.map fun c => Value.int .u8 (c.toNat : Int)).toArray) (hs : l.length ≤ maxLen) (n : Nat) (hn : n = l.length) :
    RowB (w.alloc (.cells cs t fr)) (some ⟨w.heap.size, 0, none⟩) n n l := by
  subst hcs; subst hn
  refine ⟨rfl, hs, Nat.le_refl _, .inr ⟨_, _, rfl, by simp, fun i hi => ?_⟩, fun e => by cases e⟩
  rw [World.cell?_alloc_mark]
  simp [List.getD, hi]

/-! A slice of bytes of the call's own, that is appended to. -/
def bv (l : List UInt8) : List Value := l.map fun c => Value.int .u8 (c.toNat : Int)
theorem bv_append (a b : List UInt8) : bv (a ++ b) = bv a ++ bv b := by simp [bv]
theorem bv_length (l : List UInt8) : (bv l).length = l.length := by simp [bv]
structure OwnB (t : TypeId) (base : Nat) (w : World) (v : Value) (l : List UInt8) : Prop where
  owns : w.ownsRow base t 1 v l.length (bv l)
  small : l.length ≤ maxLen
theorem OwnB.nil (t : TypeId) (base : Nat) (w : World) : OwnB t base w (.slice none 0 0) [] := ⟨World.ownsRow_nil w base t 1, Nat.zero_le _⟩
theorem OwnB.kept {t : TypeId} {base : Nat} {w w' : World} {v : Value} {l : List UInt8} (h : OwnB t base w v l) {row : Option Nat} (hg : w.grownBy w' row) (hne : v.ownBlock = none ∨ v.ownBlock ≠ row) : OwnB t base w' v l := ⟨h.owns.kept hg hne, h.small⟩
theorem OwnB.below {t : TypeId} {base : Nat} {w w' : World} {v : Value} {l : List UInt8} (h : OwnB t base w v l) (hb : Below w.heap.size w w') : OwnB t base w' v l :=
  ⟨h.owns.kept (row := none) ⟨hb.os, hb.tape, hb.output, hb.size, fun k hk _ => hb.block k hk⟩ (by cases v.ownBlock <;> simp), h.small⟩
/-- It reads as a row of bytes. -/
theorem OwnB.row {t : TypeId} {base : Nat} {w : World} {v : Value} {l : List UInt8} (h : OwnB t base w v l) : ∃ q cap, v = .slice q l.length cap ∧ RowB w q l.length cap l ∧ (∀ x, q = some x → base ≤ x.block ∧ x.off = 0 ∧ x.block < w.heap.size) := by
  obtain ⟨hown, hsm⟩ := h
  rcases hown.2 with ⟨rfl, h0⟩ | ⟨g, cap, cur, rfl, hb, hg, hnc, hcm, hcs, htake⟩
  · have : l = [] := List.eq_nil_of_length_eq_zero h0
    subst this
    exact ⟨none, 0, rfl, ⟨rfl, hsm, Nat.le_refl _, .inl rfl, fun _ => rfl⟩, fun x e => by cases e⟩
  · have hlt := (Array.getElem?_eq_some_iff.1 hg).1
    refine ⟨some ⟨g, 0, none⟩, cap, rfl, ⟨rfl, hsm, hnc, .inr ⟨g, 0, rfl, hlt, fun i hi => ?_⟩, fun e => by cases e⟩, fun x e => by cases e; exact ⟨hb, rfl, hlt⟩⟩
    have := hown.cells (g := g) rfl i (.int .u8 ((l.getD i 0).toNat : Int)) (by simp [bv, List.getD, hi])
    rw [WideShapes.add_plain] at this
    exact this
/-- append(c, a...): onto one's own, from whatever may be read. -/
theorem append_bytes {P : Program} {w : World} {ops : Array Oper} {rest : List Oper} {o : Oper} {a : Act} {Q : Exit → Act → World → Prop} (T t : TypeId) (hinfo : (P.info? t).map (fun i => (i.zero, i.size, i.bytes)) = some (some (.int .u8 0), 1, 1)) (hT : P.underlying T = some (.slice t))
    (hgd : o.guard = none) (s x : Operand) (ho : o.op = .call { callee := .builtin .append, args := #[s, x], argTypes := #[T, T] })
    (base : Nat) (v : Value) (l : List UInt8) (n : Nat) (hn : l.length = n) (hs : a.eval s = v) (hown : OwnB t base w v l) (q : Option Addr) (m c : Nat) (bs : List UInt8) (hx : a.eval x = .slice q m c) (hrow : RowB w q m c bs)
    (hroom : n + m ≤ 140737488355328) (hbase : base ≤ w.heap.size)
    (h : ∀ q' c' w', OwnB t base w' (.slice q' (n + m) c') (l ++ bs) → RowB w' q' (n + m) c' (l ++ bs) → w.grownBy w' v.ownBlock → wpList P ops Q rest (a.put o.dst (.slice q' (n + m) c')) w') : wpList P ops Q (o :: rest) a w := by
  subst hn
  obtain ⟨i, hi, hz, hsz, hby⟩ := info_parts hinfo
  have hm := hrow.length
  have fin : ∀ (v' : Value) (w' : World), w'.ownsRow base t 1 v' (l.length + m) (bv l ++ bv bs) → w.grownBy w' v.ownBlock → wpList P ops Q rest (a.put o.dst v') w' := by
    intro v' w' ho' hg'
    have hO : OwnB t base w' v' (l ++ bs) := ⟨by rw [bv_append, List.length_append, hm]; exact ho', by rw [List.length_append]; unfold maxLen; omega⟩
    obtain ⟨q', c', rfl, hR, _⟩ := hO.row
    rw [List.length_append, hm] at hO hR ⊢
    exact h q' c' w' hO hR hg'
  cases q with
  | none =>
    have hc0 := hrow.nil rfl
    subst hc0
    have hm0 : m = 0 := by have := hrow.le; omega
    subst hm0
    have hb0 : bs = [] := List.eq_nil_of_length_eq_zero hm
    subst hb0
    refine wpList_append_own_none hgd s x T ho base t i 1 hT hi v l.length (bv l) hs hown.owns hx ?_
    exact fin v w (by simpa [bv] using hown.owns) ⟨rfl, rfl, rfl, Nat.le_refl _, fun _ _ _ => rfl⟩
  | some ad =>
    refine wpList_append_own w hgd s x T ho base t i _ 1 1 hT hi hz hsz hby (by rfl) (by omega) v l.length (bv l) hs hown.owns ad m c (bv bs) hx (by rw [bv_length]; omega) ?_ ?_ (by unfold maxLen; omega) (by omega) hbase (fun v' w' h1 h2 _ => fin v' w' h1 h2)
    · intro j u hu
      have hj : j < bs.length := by
        have := (List.getElem?_eq_some_iff.1 hu).1
        simpa [bv] using this
      rcases hrow.at_ with h0 | ⟨b, off, e, _, hc⟩
      · omega
      · cases e
        rw [WideShapes.add_plain, hc j (by omega)]
        simp [bv, List.getElem?_eq_getElem hj] at hu
        rw [← hu, getD_eq hj]
    · intro u hu
      simp only [bv, List.mem_map] at hu
      obtain ⟨y, _, rfl⟩ := hu
      rfl
end Go.Proofs.YtegbjlimiephlaaDoor
