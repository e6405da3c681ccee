/- Kit, Turn, Kit2, RowG, Box. -/
import Derived.WalkKit
import Derived.ProofKit
import Derived.OpenShut
import Derived.Below
import Derived.Lib.Hide
import Derived.Laws.IdiomStrings
import Derived.Laws.BytesArg
import Derived.Laws.AppendOwnNone
import Derived.OwnWalk
import Derived.Deep.AppendLies
import Derived.Deep.Slices
import Derived.ChangeOld
/- Small words of our own: a slice that reads as a list of numbers. No program. -/
namespace Go.Proofs.YtdmpopdacbdnlaaDoor
open Go.RowKit

theorem ret_int {k : IntKind} {a b : Int} (h : a = b) : Ending.returned (.int k a) = .returned (.int k b) := by rw [h]
theorem ret_bool {a b : Bool} (h : a = b) : Ending.returned (.bool a) = .returned (.bool b) := by rw [h]
theorem bcell {W w1 : World} (hb : Below W.heap.size W w1) : (∀ b o, b < W.heap.size → w1.cell? ⟨b, o, none⟩ = W.cell? ⟨b, o, none⟩) ∧ (∀ b o, b < W.heap.size → w1.frozen? ⟨b, o, none⟩ = W.frozen? ⟨b, o, none⟩) :=
  ⟨fun b o h => hb.cell (p := ⟨b, o, none⟩) h, fun b o h => hb.frozen (p := ⟨b, o, none⟩) h⟩

/-- A slice of integers that may be read: its elements are zs. -/
structure RowI (k : IntKind) (w : World) (a : Option Addr) (len cap : Nat) (zs : List Int) : Prop where
  length : zs.length = len
  small : len ≤ maxLen
  le : len ≤ cap
  wf : ∀ n ∈ zs, (Lit.int k n).wf = true
  at_ : len = 0 ∨ ∃ b off, a = some ⟨b, off, none⟩ ∧ b < w.heap.size ∧ ∀ i, i < len → w.cell? ⟨b, off + i, none⟩ = some (.int k (zs.getD i 0))
  nil : a = none → cap = 0

/-- It is read alike in a world that is as the elder one below. -/
theorem RowI.below {k : IntKind} {w w' : World} {a : Option Addr} {len cap : Nat} {zs : List Int} (h : RowI k w a len cap zs) (hb : Below w.heap.size w w') : RowI k w' a len cap zs :=
  ⟨h.length, h.small, h.le, h.wf, by
    rcases h.at_ with h0 | ⟨b, off, rfl, hl, hc⟩
    · exact .inl h0
    · exact .inr ⟨b, off, rfl, Nat.lt_of_lt_of_le hl hb.size, fun i hi => by rw [(bcell hb).1 _ _ hl]; exact hc i hi⟩, h.nil⟩

/-- What the row's frame hands over. -/
def IsRow (k : IntKind) (w : World) (a : Option Addr) (len cap : Nat) (zs : List Int) : Prop :=
  (a = none ∧ len = 0 ∧ cap = 0 ∧ zs = []) ∨
  ∃ x, a = some x ∧ len ≤ cap ∧ cap ≤ maxLen ∧ zs.length = cap ∧ (∀ i, i < zs.length → w.cell? (x.add i) = some (.int k (zs.getD i 0))) ∧ ∀ n ∈ zs, (Lit.int k n).wf = true

theorem IsRow.row {k : IntKind} {w : World} {a : Option Addr} {len cap : Nat} {zs : List Int} (h : IsRow k w a len cap zs) : RowI k w a len cap (zs.take len) := by
  rcases h with ⟨rfl, rfl, rfl, rfl⟩ | ⟨x, rfl, hl, hm, hz, hc, hw⟩
  · exact ⟨rfl, by decide, Nat.le_refl _, fun n hn => (List.not_mem_nil hn).elim, .inl rfl, fun _ => rfl⟩
  · refine ⟨by rw [List.length_take]; omega, Nat.le_trans hl hm, hl, fun n hn => hw n (List.mem_of_mem_take hn), ?_, fun e => by cases e⟩
    by_cases h0 : len = 0
    · exact .inl h0
    · obtain ⟨b, off, rfl, hc'⟩ := ints_at hc (by omega)
      refine .inr ⟨b, off, rfl, ?_, fun i hi => ?_⟩
      · exact World.block_lt_of_cell? w ⟨b, off + 0, none⟩ (hc' 0 (by omega))
      · rw [hc' i (by omega)]; simp [List.getD, hi]

theorem RowI.range {w : World} {a : Option Addr} {len cap : Nat} {zs : List Int} (h : RowI .i64 w a len cap zs) (j : Nat) : -9223372036854775808 ≤ zs.getD j 0 ∧ zs.getD j 0 ≤ 9223372036854775807 := by
  have := range_i64 h.wf j
  simpa [List.getD] using this

/-- A slice of bytes that may be read. -/
structure RowB (w : World) (a : Option Addr) (len cap : Nat) (bs : List UInt8) : Prop where
  length : bs.length = len
  small : len ≤ maxLen
  le : len ≤ cap
  at_ : len = 0 ∨ ∃ b off, a = some ⟨b, off, none⟩ ∧ b < w.heap.size ∧ ∀ i, i < len → w.cell? ⟨b, off + i, none⟩ = some (.int .u8 ((bs.getD i 0).toNat : Int))
  nil : a = none → cap = 0
theorem RowB.below {w w' : World} {a : Option Addr} {len cap : Nat} {bs : List UInt8} (h : RowB w a len cap bs) (hb : Below w.heap.size w w') : RowB w' a len cap bs :=
  ⟨h.length, h.small, h.le, by
    rcases h.at_ with h0 | ⟨b, off, rfl, hl, hc⟩
    · exact .inl h0
    · exact .inr ⟨b, off, rfl, Nat.lt_of_lt_of_le hl hb.size, fun i hi => by rw [(bcell hb).1 _ _ hl]; exact hc i hi⟩, h.nil⟩
def bytesOf (zs : List Int) : List UInt8 := zs.map fun z => UInt8.ofNat z.toNat
theorem RowI.bytes {w : World} {a : Option Addr} {len cap : Nat} {zs : List Int} (h : RowI .u8 w a len cap zs) : RowB w a len cap (bytesOf zs) := by
  refine ⟨by simp [bytesOf, h.length], h.small, h.le, ?_, h.nil⟩
  rcases h.at_ with h0 | ⟨b, off, rfl, hl, hc⟩
  · exact .inl h0
  · refine .inr ⟨b, off, rfl, hl, fun i hi => ?_⟩
    rw [hc i hi]
    have hi' : i < zs.length := by rw [h.length]; exact hi
    have hw := bounds_u8 (h.wf zs[i] (List.getElem_mem hi'))
    have e1 : zs.getD i 0 = zs[i] := by simp [List.getD, hi']
    have e2 : (bytesOf zs).getD i 0 = UInt8.ofNat zs[i].toNat := by simp [bytesOf, List.getD, hi']
    rw [e1, e2]
    have : ((UInt8.ofNat zs[i].toNat).toNat : Int) = zs[i] := by
      rw [UInt8.toNat_ofNat']; omega
    rw [this]
theorem IsRow.bytes {w : World} {a : Option Addr} {len cap : Nat} {zs : List Int} (h : IsRow .u8 w a len cap zs) : RowB w a len cap (bytesOf (zs.take len)) := h.row.bytes
theorem getD_eq {l : List UInt8} {i : Nat} (h : i < l.length) : l.getD i 0 = l[i] := by simp [List.getD, h]
theorem take_succ' {l : List UInt8} {i : Nat} (h : i < l.length) : l.take (i + 1) = l.take i ++ [l.getD i 0] := by
  rw [List.take_succ_eq_append_getElem h, getD_eq h]

/-- string(b) of a slice that may be read. -/
theorem RowB.conv {P : Program} {w : World} {a : Option Addr} {len cap : Nat} {bs : List UInt8} (h : RowB w a len cap bs) (src dst e : TypeId)
    (hs : P.underlying src = some (.slice e)) (he : P.underlying e = some (.int .u8)) (hd : P.underlying dst = some .string) :
    (convert src dst (.slice a len cap)).run P w = .ok (.string ⟨bs.toArray⟩) w := by
  have hl := h.length
  rcases h.at_ with h0 | ⟨b, off, rfl, _, hc⟩
  · have hbs : bs = [] := List.eq_nil_of_length_eq_zero (by omega)
    subst hbs
    subst h0
    cases a with
    | none => exact run_convert_bytes_nil w src e hs he 0 cap dst hd
    | some x => exact run_convert_bytes_back w src dst e x cap [] hs he hd (fun j hj => absurd hj (Nat.not_lt_zero _))
  · rw [← hl]
    refine run_convert_bytes_back w src dst e ⟨b, off, none⟩ cap bs hs he hd (fun j hj => ?_)
    rw [WideShapes.add_plain, hc j (by omega), getD_eq hj]
/-- Three new bytes. -/
theorem RowB.three (w : World) (x y z : Nat) (t : TypeId) (hx : x < 256) (hy : y < 256) (hz : z < 256) {c0 c1 c2 : Int} (h0 : c0 = x) (h1 : c1 = y) (h2 : c2 = z) :
    RowB (w.alloc (.cells #[.int .u8 c0, .int .u8 c1, .int .u8 c2] t)) (some ⟨w.heap.size, 0, none⟩) 3 3 [UInt8.ofNat x, UInt8.ofNat y, UInt8.ofNat z] := by
  subst h0 h1 h2
  refine ⟨rfl, by decide, Nat.le_refl _, .inr ⟨_, _, rfl, by simp, fun i hi => ?_⟩, fun e => by cases e⟩
  have : i = 0 ∨ i = 1 ∨ i = 2 := by omega
  rcases this with rfl | rfl | rfl
  · simp; omega
  · simp; omega
  · simp; omega
theorem RowB.three_at {w : World} {b : Nat} {p q r : UInt8} (h : RowB w (some ⟨b, 0, none⟩) 3 3 [p, q, r]) :
    w.cell? ⟨b, 0, none⟩ = some (.int .u8 (p.toNat : Int)) ∧ w.cell? ⟨b, 1, none⟩ = some (.int .u8 (q.toNat : Int)) ∧ w.cell? ⟨b, 2, none⟩ = some (.int .u8 (r.toNat : Int)) := by
  rcases h.at_ with h0 | ⟨b', off, hbo, _, hc⟩
  · cases h0
  · simp only [Option.some.injEq, Addr.mk.injEq] at hbo
    obtain ⟨rfl, rfl, _⟩ := hbo
    exact ⟨hc 0 (by omega), hc 1 (by omega), hc 2 (by omega)⟩
/-- Three bytes are three others, or not: told by the first that is unlike. -/
theorem three_ways (x y z p q r : UInt8) : (x = p ∧ y = q ∧ z = r) ∨ (((x.toNat : Int) == (p.toNat : Int)) = false ∧ [p, q, r] ≠ [x, y, z]) ∨ (x = p ∧ ((y.toNat : Int) == (q.toNat : Int)) = false ∧ [p, q, r] ≠ [x, y, z]) ∨ (x = p ∧ y = q ∧ ((z.toNat : Int) == (r.toNat : Int)) = false ∧ [p, q, r] ≠ [x, y, z]) := by
  have ne : ∀ a b : UInt8, a ≠ b → ((a.toNat : Int) == (b.toNat : Int)) = false := fun a b h => by
    rw [beq_eq_false_iff_ne]; intro e; exact h (UInt8.toNat_inj.1 (by omega))
  by_cases hx : x = p
  · by_cases hy : y = q
    · by_cases hz : z = r
      · exact .inl ⟨hx, hy, hz⟩
      · exact .inr (.inr (.inr ⟨hx, hy, ne _ _ hz, by simp; intro _ _ e; exact hz e.symm⟩))
    · exact .inr (.inr (.inl ⟨hx, ne _ _ hy, by simp; intro _ e; exact (hy e.symm).elim⟩))
  · exact .inr (.inl ⟨ne _ _ hx, by simp; intro e; exact (hx e.symm).elim⟩)
/-- A new block of bytes, whatever its mark. -/
theorem RowB.newM (w : World) (l : List UInt8) (cs : Array Value) (t : TypeId) (fr : Nat × Nat) (hcs : cs = (l.map fun c => Value.int .u8 (c.toNat : Int)).toArray) (hs : l.length ≤ maxLen) (n : Nat) (hn : n = l.length) :
    RowB (w.alloc (.cells cs t fr)) (some ⟨w.heap.size, 0, none⟩) n n l := by
  subst hcs; subst hn
  refine ⟨rfl, hs, Nat.le_refl _, .inr ⟨_, _, rfl, by simp, fun i hi => ?_⟩, fun e => by cases e⟩
  rw [World.cell?_alloc_mark]
  simp [List.getD, hi]

/-! A slice of bytes of the call's own, that is appended to. -/
def bv (l : List UInt8) : List Value := l.map fun c => Value.int .u8 (c.toNat : Int)
theorem bv_append (a b : List UInt8) : bv (a ++ b) = bv a ++ bv b := by simp [bv]
theorem bv_length (l : List UInt8) : (bv l).length = l.length := by simp [bv]
structure OwnB (t : TypeId) (base : Nat) (w : World) (v : Value) (l : List UInt8) : Prop where
  owns : w.ownsRow base t 1 v l.length (bv l)
  small : l.length ≤ maxLen
theorem OwnB.nil (t : TypeId) (base : Nat) (w : World) : OwnB t base w (.slice none 0 0) [] := ⟨World.ownsRow_nil w base t 1, Nat.zero_le _⟩
theorem OwnB.kept {t : TypeId} {base : Nat} {w w' : World} {v : Value} {l : List UInt8} (h : OwnB t base w v l) {row : Option Nat} (hg : w.grownBy w' row) (hne : v.ownBlock = none ∨ v.ownBlock ≠ row) : OwnB t base w' v l := ⟨h.owns.kept hg hne, h.small⟩
theorem OwnB.below {t : TypeId} {base : Nat} {w w' : World} {v : Value} {l : List UInt8} (h : OwnB t base w v l) (hb : Below w.heap.size w w') : OwnB t base w' v l :=
  ⟨h.owns.kept (row := none) ⟨hb.os, hb.tape, hb.output, hb.size, fun k hk _ => hb.block k hk⟩ (by cases v.ownBlock <;> simp), h.small⟩
/-- It reads as a row of bytes. -/
theorem OwnB.row {t : TypeId} {base : Nat} {w : World} {v : Value} {l : List UInt8} (h : OwnB t base w v l) : ∃ q cap, v = .slice q l.length cap ∧ RowB w q l.length cap l ∧ (∀ x, q = some x → base ≤ x.block ∧ x.off = 0 ∧ x.block < w.heap.size) := by
  obtain ⟨hown, hsm⟩ := h
  rcases hown.2 with ⟨rfl, h0⟩ | ⟨g, cap, cur, rfl, hb, hg, hnc, hcm, hcs, htake⟩
  · have : l = [] := List.eq_nil_of_length_eq_zero h0
    subst this
    exact ⟨none, 0, rfl, ⟨rfl, hsm, Nat.le_refl _, .inl rfl, fun _ => rfl⟩, fun x e => by cases e⟩
  · have hlt := (Array.getElem?_eq_some_iff.1 hg).1
    refine ⟨some ⟨g, 0, none⟩, cap, rfl, ⟨rfl, hsm, hnc, .inr ⟨g, 0, rfl, hlt, fun i hi => ?_⟩, fun e => by cases e⟩, fun x e => by cases e; exact ⟨hb, rfl, hlt⟩⟩
    have := hown.cells (g := g) rfl i (.int .u8 ((l.getD i 0).toNat : Int)) (by simp [bv, List.getD, hi])
    rw [WideShapes.add_plain] at this
    exact this
/-- append(c, a...): onto one's own, from whatever may be read. -/
theorem append_bytes {P : Program} {w : World} {ops : Array Oper} {rest : List Oper} {o : Oper} {a : Act} {Q : Exit → Act → World → Prop} (T t : TypeId) (hinfo : (P.info? t).map (fun i => (i.zero, i.size, i.bytes)) = some (some (.int .u8 0), 1, 1)) (hT : P.underlying T = some (.slice t))
    (hgd : o.guard = none) (s x : Operand) (ho : o.op = .call { callee := .builtin .append, args := #[s, x], argTypes := #[T, T] })
    (base : Nat) (v : Value) (l : List UInt8) (n : Nat) (hn : l.length = n) (hs : a.eval s = v) (hown : OwnB t base w v l) (q : Option Addr) (m c : Nat) (bs : List UInt8) (hx : a.eval x = .slice q m c) (hrow : RowB w q m c bs)
    (hroom : n + m ≤ 140737488355328) (hbase : base ≤ w.heap.size)
    (h : ∀ q' c' w', OwnB t base w' (.slice q' (n + m) c') (l ++ bs) → RowB w' q' (n + m) c' (l ++ bs) → w.grownBy w' v.ownBlock → wpList P ops Q rest (a.put o.dst (.slice q' (n + m) c')) w') : wpList P ops Q (o :: rest) a w := by
  subst hn
  obtain ⟨i, hi, hz, hsz, hby⟩ := info_parts hinfo
  have hm := hrow.length
  have fin : ∀ (v' : Value) (w' : World), w'.ownsRow base t 1 v' (l.length + m) (bv l ++ bv bs) → w.grownBy w' v.ownBlock → wpList P ops Q rest (a.put o.dst v') w' := by
    intro v' w' ho' hg'
    have hO : OwnB t base w' v' (l ++ bs) := ⟨by rw [bv_append, List.length_append, hm]; exact ho', by rw [List.length_append]; unfold maxLen; omega⟩
    obtain ⟨q', c', rfl, hR, _⟩ := hO.row
    rw [List.length_append, hm] at hO hR ⊢
    exact h q' c' w' hO hR hg'
  cases q with
  | none =>
    have hc0 := hrow.nil rfl
    subst hc0
    have hm0 : m = 0 := by have := hrow.le; omega
    subst hm0
    have hb0 : bs = [] := List.eq_nil_of_length_eq_zero hm
    subst hb0
    refine wpList_append_own_none hgd s x T ho base t i 1 hT hi v l.length (bv l) hs hown.owns hx ?_
    exact fin v w (by simpa [bv] using hown.owns) ⟨rfl, rfl, rfl, Nat.le_refl _, fun _ _ _ => rfl⟩
  | some ad =>
    refine wpList_append_own w hgd s x T ho base t i _ 1 1 hT hi hz hsz hby (by rfl) (by omega) v l.length (bv l) hs hown.owns ad m c (bv bs) hx (by rw [bv_length]; omega) ?_ ?_ (by unfold maxLen; omega) (by omega) hbase (fun v' w' h1 h2 _ => fin v' w' h1 h2)
    · intro j u hu
      have hj : j < bs.length := by
        have := (List.getElem?_eq_some_iff.1 hu).1
        simpa [bv] using this
      rcases hrow.at_ with h0 | ⟨b, off, e, _, hc⟩
      · omega
      · cases e
        rw [WideShapes.add_plain, hc j (by omega)]
        simp [bv, List.getElem?_eq_getElem hj] at hu
        rw [← hu, getD_eq hj]
    · intro u hu
      simp only [bv, List.mem_map] at hu
      obtain ⟨y, _, rfl⟩ := hu
      rfl
end Go.Proofs.YtdmpopdacbdnlaaDoor
/- From one world to another no block has turned but some. No program. -/
namespace Go.Proofs.YtdmpopdacbdnlaaDoor
open Go.RowKit
set_option linter.unusedVariables false
/-- From w to w' no block has turned but those of S, and new ones. -/
structure Turn (S : Nat → Prop) (w w' : World) : Prop where
  os : w'.os = w.os
  tape : w'.tape = w.tape
  output : w'.output = w.output
  size : w.heap.size ≤ w'.heap.size
  block : ∀ k, k < w.heap.size → ¬ S k → w'.heap[k]? = w.heap[k]?
theorem Turn.refl (S : Nat → Prop) (w : World) : Turn S w w := ⟨rfl, rfl, rfl, Nat.le_refl _, fun _ _ _ => rfl⟩
theorem Turn.trans {S T : Nat → Prop} {a b c : World} (h : Turn S a b) (k : Turn T b c) (hT : ∀ x, x < a.heap.size → T x → S x) : Turn S a c :=
  ⟨k.os.trans h.os, k.tape.trans h.tape, k.output.trans h.output, Nat.le_trans h.size k.size, fun i hi hn => (k.block i (Nat.lt_of_lt_of_le hi h.size) (fun t => hn (hT i hi t))).trans (h.block i hi hn)⟩
theorem Turn.mono {S T : Nat → Prop} {a b : World} (h : Turn S a b) (hT : ∀ x, x < a.heap.size → S x → T x) : Turn T a b := ⟨h.os, h.tape, h.output, h.size, fun i hi hn => h.block i hi (fun t => hn (hT i hi t))⟩
theorem Turn.ofBelow {S : Nat → Prop} {a b : World} {n : Nat} (h : Below n a b) (hn : n = a.heap.size) : Turn S a b := ⟨h.os, h.tape, h.output, h.size, fun i hi _ => h.block i (by omega)⟩
theorem Turn.ofGrown {S : Nat → Prop} {a b : World} {r : Option Nat} (h : a.grownBy b r) (hr : ∀ k, r = some k → k < a.heap.size → S k) : Turn S a b :=
  ⟨h.os, h.tape, h.output, h.size, fun i hi hn => h.block i hi (fun e => hn (hr i e.symm hi))⟩
theorem Turn.drew {S : Nat → Prop} {a w : World} (h : Turn S a w) : Turn S a w.drew := ⟨h.os, h.tape, h.output, h.size, h.block⟩
theorem Turn.alloc {S : Nat → Prop} {a w : World} (h : Turn S a w) (o : Obj) : Turn S a (w.alloc o) :=
  h.trans (T := fun _ => False) ⟨rfl, rfl, rfl, by simp, fun k hk _ => Below.heap_alloc _ _ _ hk⟩ (fun _ _ h => h.elim)
theorem Turn.setCell {S : Nat → Prop} {a w : World} (h : Turn S a w) (p : Addr) (hp : p.block < a.heap.size → S p.block) (u : Value) : Turn S a (w.setCell p u) :=
  h.trans (T := fun k => k = p.block) ⟨rfl, rfl, rfl, by simp [World.setCell], fun k _ hn => Below.heap_setCell _ _ _ _ hn⟩ (fun x hx e => by subst e; exact hp hx)
theorem Turn.set (w : World) (a : Addr) (u : Value) : Turn (fun k => k = a.block) w (w.setCell a u) := (Turn.refl (fun k => k = a.block) w).setCell a (fun _ => rfl) u
theorem Turn.below {S : Nat → Prop} {w w' : World} (h : Turn S w w') {B : Nat} (hB : B ≤ w.heap.size) (hS : ∀ k, k < B → ¬ S k) : Below B w w' := ⟨h.os, h.tape, h.output, h.size, fun k hk => h.block k (by omega) (hS k hk)⟩
theorem Turn.cell {S : Nat → Prop} {w w' : World} (h : Turn S w w') {p : Addr} (hp : p.block < w.heap.size) (hn : ¬ S p.block) : w'.cell? p = w.cell? p := World.cell?_of_block (w := w) (h.block p.block hp hn)
theorem Turn.frozen {S : Nat → Prop} {w w' : World} (h : Turn S w w') {p : Addr} (hp : p.block < w.heap.size) (hn : ¬ S p.block) : w'.frozen? p = w.frozen? p := World.frozen?_of_block (w := w) (h.block p.block hp hn)
theorem Turn.grown {w w' : World} {g : Nat} (h : Turn (fun k => k = g) w w') : w.grownBy w' (some g) := ⟨h.os, h.tape, h.output, h.size, fun k hk hn => h.block k hk (fun e => hn (by rw [e]))⟩
/-- where a slice of bytes lies apart from what may turn, it reads as it did -/
def Off (S : Nat → Prop) (q : Option Addr) : Prop := ∀ x, q = some x → ¬ S x.block
theorem RowB.turn {S : Nat → Prop} {w w' : World} {q : Option Addr} {len cap : Nat} {bs : List UInt8} (h : RowB w q len cap bs) (ht : Turn S w w') (ho : Off S q) : RowB w' q len cap bs :=
  ⟨h.length, h.small, h.le, by
    rcases h.at_ with h0 | ⟨b, off, rfl, hl, hc⟩
    · exact .inl h0
    · exact .inr ⟨b, off, rfl, Nat.lt_of_lt_of_le hl ht.size, fun i hi => (ht.cell (p := ⟨b, off + i, none⟩) hl (ho ⟨b, off, none⟩ rfl)).trans (hc i hi)⟩, h.nil⟩
theorem OwnB.turn {S : Nat → Prop} {t : TypeId} {base : Nat} {w w' : World} {q : Option Addr} {n c : Nat} {l : List UInt8} (h : OwnB t base w (.slice q n c) l) (ht : Turn S w w') (ho : Off S q) : OwnB t base w' (.slice q n c) l := by
  refine ⟨⟨h.owns.1, ?_⟩, h.small⟩
  rcases h.owns.2 with hn | ⟨g, cap, cur, hv, hb, hg, rest⟩
  · exact .inl hn
  · refine .inr ⟨g, cap, cur, hv, hb, ?_, rest⟩
    have hq : q = some ⟨g, 0, none⟩ := by
      have := hv
      simp only [Value.slice.injEq] at this
      exact this.1
    rw [ht.block g (Array.getElem?_eq_some_iff.1 hg).1 (ho _ hq)]
    exact hg
end Go.Proofs.YtdmpopdacbdnlaaDoor
/- Slices of things of several cells that came in: what may be read of them; appends whose place is known. No program. -/
namespace Go.Proofs.YtdmpopdacbdnlaaDoor
open Go.RowKit

/-- What the frame hands over of a slice of elements of m cells each: each element's cells, and that they read as a value of the element's type. -/
def IsRows {H : Type} (enc : TypeId × Value → H) (P : Program) (e m : Nat) (w : World) (a : Option Addr) (len cap : Nat) : Prop :=
  len ≤ cap ∧ cap ≤ maxLen ∧ (a = none → cap = 0) ∧ (len = 0 ∨ ∃ b off, a = some ⟨b, off, none⟩ ∧ b < w.heap.size ∧
    ∀ i, i < len → ∃ cs : List Value, cs.length = m ∧ (∀ j, j < m → w.cell? ⟨b, off + i * m + j, none⟩ = cs[j]?) ∧ ∃ n y, DataW.trod enc P w 0 (fun _ => true) true n e cs = some y)

theorem open_rows {H : Type} {enc : TypeId × Value → H} {P : Program} {w : World} {t e m fuel : Nat} {a : Option Addr} {len cap : Nat} {x : DataW H × List MemPlace}
    (ht : P.underlying t = some (.slice e)) (hm : P.cellsOf e = m) (hm0 : 0 < m) (h : DataW.trod enc P w 0 (fun _ => true) true fuel t (Value.slice a len cap).cells.toList = some x) : IsRows enc P e m w a len cap := by
  rcases Deep.open_slice ht h with ⟨hcs, _⟩ | ⟨x0, l, c, mm, n, D, Pl, hcs, _, hl, hmx, hmm, _, hel⟩
  · simp [Value.cells] at hcs
    obtain ⟨rfl, rfl, rfl⟩ := hcs
    exact ⟨Nat.le_refl _, Nat.zero_le _, fun _ => rfl, .inl rfl⟩
  · simp [Value.cells] at hcs
    obtain ⟨rfl, rfl, rfl⟩ := hcs
    refine ⟨hl, hmx, (fun h => by cases h), ?_⟩
    by_cases h0 : len = 0
    · exact .inl h0
    · have hle : len ≤ mm := by simp at hmm; omega
      obtain ⟨cs0, hc0, _⟩ := hel 0 (by omega)
      rw [hm] at hc0
      have g0 := World.cells?_some hc0
      have hlt := World.cells?_block hc0 hm0
      obtain ⟨b, off, spot⟩ := x0
      have hspot : spot = none := by
        have h1 := g0.2.2 0 hm0
        have h2 : cs0[0]? = some (cs0[0]'(by omega)) := List.getElem?_eq_getElem _
        rw [h2] at h1
        simpa [Addr.add] using World.cell?_spot h1
      subst hspot
      simp only [Nat.zero_mul, WideShapes.add_plain] at hlt
      refine .inr ⟨b, off, rfl, hlt, fun i hi => ?_⟩
      obtain ⟨cs, hc, hd⟩ := hel i (by omega)
      rw [hm, WideShapes.add_plain] at hc
      obtain ⟨_, hlen, hat⟩ := World.cells?_some hc
      refine ⟨cs, hlen, fun j hj => ?_, n, _, hd⟩
      rw [← hat j hj, WideShapes.add_plain]

/-- A slice of pairs of bytes that may be read. -/
structure RowP (w : World) (a : Option Addr) (len cap : Nat) (ps : List (UInt8 × UInt8)) : Prop where
  length : ps.length = len
  small : len ≤ maxLen
  at_ : len = 0 ∨ ∃ b off, a = some ⟨b, off, none⟩ ∧ b < w.heap.size ∧ ∀ i, i < len → w.cell? ⟨b, off + i * 2, none⟩ = some (.int .u8 ((ps.getD i (0, 0)).1.toNat : Int)) ∧ w.cell? ⟨b, off + i * 2 + 1, none⟩ = some (.int .u8 ((ps.getD i (0, 0)).2.toNat : Int))
theorem RowP.below {w w' : World} {a : Option Addr} {len cap : Nat} {ps : List (UInt8 × UInt8)} (h : RowP w a len cap ps) (hb : Below w.heap.size w w') : RowP w' a len cap ps :=
  ⟨h.length, h.small, by
    rcases h.at_ with h0 | ⟨b, off, rfl, hl, hc⟩
    · exact .inl h0
    · exact .inr ⟨b, off, rfl, Nat.lt_of_lt_of_le hl hb.size, fun i hi => by rw [(bcell hb).1 _ _ hl, (bcell hb).1 _ _ hl]; exact hc i hi⟩⟩
theorem IsRows.pairs {H : Type} {enc : TypeId × Value → H} {P : Program} {w : World} {t e : Nat} {a : Option Addr} {len cap : Nat} (h : IsRows enc P e 2 w a len cap)
    (he : P.underlying e = some (.array 2 t)) (ht : P.underlying t = some (.int .u8)) (hc : P.cellsOf t = 1) : ∃ ps, RowP w a len cap ps := by
  obtain ⟨hl, hm, _, hat⟩ := h
  rcases hat with h0 | ⟨b, off, rfl, hb, hel⟩
  · exact ⟨[], ⟨by simp [h0], by omega, .inl h0⟩⟩
  · have one : ∀ i, i < len → ∃ p q : UInt8, w.cell? ⟨b, off + i * 2, none⟩ = some (.int .u8 (p.toNat : Int)) ∧ w.cell? ⟨b, off + i * 2 + 1, none⟩ = some (.int .u8 (q.toNat : Int)) := by
      intro i hi
      obtain ⟨cs, hcl, hcc, n, y, hd⟩ := hel i hi
      obtain ⟨xs, m, _, _, _, hxl, hx⟩ := DataW.trod_array he hd
      rw [hc] at hx
      have b8 : ∀ v : Value, ∀ z, DataW.trod enc P w 0 (fun _ => true) true m t [v] = some z → ∃ p : UInt8, v = .int .u8 (p.toNat : Int) := by
        intro v z hz
        obtain ⟨k, hk, _, wk⟩ := DataW.trod_int ht hz
        simp at hk
        have := bounds_u8 wk
        exact ⟨UInt8.ofNat k.toNat, by rw [hk, UInt8.toNat_ofNat']; congr 1; omega⟩
      match cs, hcl with
      | [v0, v1], _ =>
        have h0 := hx 0 (by omega)
        have h1 := hx 1 (by omega)
        simp [hxl] at h0 h1
        obtain ⟨p, hp⟩ := b8 v0 _ h0
        obtain ⟨q, hq⟩ := b8 v1 _ h1
        refine ⟨p, q, ?_, ?_⟩
        · have := hcc 0 (by omega); simpa [hp] using this
        · have := hcc 1 (by omega); simpa [hq] using this
    refine ⟨(List.range len).map fun i => if h : i < len then ((one i h).choose, (one i h).choose_spec.choose) else (0, 0), ⟨by simp, by omega, .inr ⟨b, off, rfl, hb, fun i hi => ?_⟩⟩⟩
    have := (one i hi).choose_spec.choose_spec
    simpa [List.getD, hi] using this

/-- Two slices of the call's own lie apart. -/
def Ap (u v : Value) : Prop := u.ownBlock = none ∨ v.ownBlock = none ∨ u.ownBlock ≠ v.ownBlock
theorem Ap.symm {u v : Value} (h : Ap u v) : Ap v u := by
  rcases h with h | h | h
  · exact .inr (.inl h)
  · exact .inl h
  · exact .inr (.inr (Ne.symm h))
theorem Ap.kept {u v : Value} (h : Ap u v) : u.ownBlock = none ∨ u.ownBlock ≠ v.ownBlock := by
  rcases h with h | h | h
  · exact .inl h
  · cases hu : u.ownBlock with
    | none => exact .inl rfl
    | some g => exact .inr (by rw [h]; simp)
  · exact .inr h
theorem Ap.nil_left (v : Value) : Ap (.slice none 0 0) v := .inl rfl
/-- behind an append to v at block g -/
theorem Ap.next {t : TypeId} {base : Nat} {w : World} {u v : Value} {l : List UInt8} (h : Ap u v) (hu : OwnB t base w u l) {g n cap H : Nat} (hg : v.ownBlock = some g ∨ g = H) (hH : w.heap.size ≤ H) : Ap u (.slice (some ⟨g, 0, none⟩) n cap) := by
  cases hb : u.ownBlock with
  | none => exact .inl hb
  | some gu =>
    refine .inr (.inr ?_)
    rw [hb]
    have hlt := (hu.owns.lt gu hb).2
    rcases hg with hg | hg
    · rcases h with h | h | h
      · rw [hb] at h; cases h
      · rw [h] at hg; cases hg
      · rw [hb, hg] at h; exact h
    · subst hg
      simp only [Value.ownBlock, ne_eq, Option.some.injEq]
      omega
/-- append(c, x): one byte. -/
theorem append_byte {P : Program} {w : World} {ops : Array Oper} {rest : List Oper} {o : Oper} {a : Act} {Q : Exit → Act → World → Prop} (T t : TypeId) (hinfo : (P.info? t).map (fun i => (i.zero, i.size, i.bytes)) = some (some (.int .u8 0), 1, 1)) (hT : P.underlying T = some (.slice t))
    (hgd : o.guard = none) (s x : Operand) (ho : o.op = .call { callee := .builtin .append, args := #[s, x], argTypes := #[T, T] })
    (base : Nat) (v : Value) (l : List UInt8) (n : Nat) (hn : l.length = n) (hs : a.eval s = v) (hown : OwnB t base w v l) (ab : Nat) (c : Nat) (y : UInt8) (hx : a.eval x = .slice (some ⟨ab, 0, none⟩) 1 c) (hcell : w.cell? ⟨ab, 0, none⟩ = some (.int .u8 (y.toNat : Int)))
    (hroom : n + 1 ≤ 140737488355328) (hbase : base ≤ w.heap.size)
    (h : ∀ g cap w', OwnB t base w' (.slice (some ⟨g, 0, none⟩) (n + 1) cap) (l ++ [y]) → w.grownBy w' v.ownBlock → (v.ownBlock = some g ∨ g = w.heap.size) → g < w'.heap.size → wpList P ops Q rest (a.put o.dst (.slice (some ⟨g, 0, none⟩) (n + 1) cap)) w') : wpList P ops Q (o :: rest) a w := by
  subst hn
  obtain ⟨i, hi, hz, hsz, hby⟩ := info_parts hinfo
  refine wpList_append_lies w hgd s x T ho base t i _ 1 1 hT hi hz hsz hby (by rfl) (by omega) v l.length (bv l) hs hown.owns ⟨ab, 0, none⟩ 1 c [.int .u8 (y.toNat : Int)] hx (by rfl) ?_ ?_ (by omega) (by unfold maxLen; omega) (by omega) hbase _ rfl ?_
  · intro j u hu
    have hj : j = 0 := by
      have := (List.getElem?_eq_some_iff.1 hu).1
      simpa using this
    subst hj
    simp at hu
    subst hu
    rw [WideShapes.add_plain]; exact hcell
  · intro u hu
    simp at hu
    subst hu
    rfl
  · intro g cap w' h1 h2 h3 h4
    exact h g cap w' ⟨by rw [List.length_append, bv_append]; exact h1, by rw [List.length_append]; unfold maxLen; simp; omega⟩ h2 h3 h4
end Go.Proofs.YtdmpopdacbdnlaaDoor
/- A slice of elements of m cells each, whatever they are: one that may be read; one of the call's own; append onto it. No program. -/
namespace Go.Proofs.YtdmpopdacbdnlaaDoor
open Go.RowKit
set_option linter.unusedVariables false

/-- A slice of elements of m cells each that may be read: cs are the elements' cells. -/
structure RowG (m : Nat) (w : World) (q : Option Addr) (n : Nat) (cs : List (List Value)) : Prop where
  length : cs.length = n
  small : n ≤ maxLen
  at_ : n = 0 ∨ ∃ b off, q = some ⟨b, off, none⟩ ∧ b < w.heap.size ∧ ∀ i, i < n → ∀ j v, (cs.getD i [])[j]? = some v → w.cell? ⟨b, off + i * m + j, none⟩ = some v
theorem RowG.turn {m : Nat} {S : Nat → Prop} {w w' : World} {q : Option Addr} {n : Nat} {cs : List (List Value)} (h : RowG m w q n cs) (ht : Turn S w w') (ho : Off S q) : RowG m w' q n cs :=
  ⟨h.length, h.small, h.at_.imp id (by
    rintro ⟨b, off, rfl, hl, hc⟩
    exact ⟨b, off, rfl, Nat.lt_of_lt_of_le hl ht.size, fun i hi j v hv => (ht.cell (p := ⟨b, off + i * m + j, none⟩) hl (ho ⟨b, off, none⟩ rfl)).trans (hc i hi j v hv)⟩)⟩
theorem RowG.below {m : Nat} {w w' : World} {q : Option Addr} {n : Nat} {cs : List (List Value)} (h : RowG m w q n cs) (hb : Below w.heap.size w w') : RowG m w' q n cs :=
  h.turn (S := fun _ => False) (Turn.ofBelow hb rfl) (fun _ _ h => h)
theorem RowG.empty (m : Nat) (w : World) (q : Option Addr) : RowG m w q 0 [] := ⟨rfl, Nat.zero_le _, .inl rfl⟩
/-- An element's cells, where they lie. -/
theorem RowG.get {m : Nat} {w : World} {q : Option Addr} {n : Nat} {cs : List (List Value)} (h : RowG m w q n cs) (h0 : 0 < n) : ∃ b off, q = some ⟨b, off, none⟩ ∧ b < w.heap.size ∧ ∀ i, i < n → ∀ j v, (cs.getD i [])[j]? = some v → w.cell? ⟨b, off + i * m + j, none⟩ = some v := by
  rcases h.at_ with h | h
  · omega
  · exact h
theorem flatten_get {α : Type} (m : Nat) (cs : List (List α)) (hw : ∀ c ∈ cs, c.length = m) (i j : Nat) (hi : i < cs.length) (hj : j < m) : cs.flatten[i * m + j]? = (cs.getD i [])[j]? := by
  induction cs generalizing i with
  | nil => simp at hi
  | cons c cs ih =>
    have hc := hw c (by simp)
    cases i with
    | zero => simp [List.getElem?_append_left (show j < c.length by omega)]
    | succ k =>
      have e : (k + 1) * m + j = c.length + (k * m + j) := by rw [hc, Nat.succ_mul]; omega
      rw [List.flatten_cons, e, List.getElem?_append_right (by omega), Nat.add_sub_cancel_left, ih (fun c' h => hw c' (by simp [h])) k (by simpa using hi)]
      simp
theorem flatten_len {α : Type} (m : Nat) (cs : List (List α)) (hw : ∀ c ∈ cs, c.length = m) : cs.flatten.length = cs.length * m := by
  induction cs with
  | nil => simp
  | cons c cs ih => rw [List.flatten_cons, List.length_append, hw c (by simp), ih (fun c' h => hw c' (by simp [h])), List.length_cons, Nat.succ_mul]; omega
/-- A slice of elements of m cells each of the call's own. -/
structure OwnG (t : TypeId) (m base : Nat) (w : World) (v : Value) (cs : List (List Value)) : Prop where
  owns : w.ownsRow base t m v cs.length cs.flatten
  small : cs.length ≤ maxLen
  wide : ∀ c ∈ cs, c.length = m
theorem OwnG.nil (t : TypeId) (m base : Nat) (w : World) : OwnG t m base w (.slice none 0 0) [] := ⟨World.ownsRow_nil w base t m, Nat.zero_le _, fun c h => (List.not_mem_nil h).elim⟩
theorem OwnG.kept {t : TypeId} {m base : Nat} {w w' : World} {v : Value} {cs : List (List Value)} (h : OwnG t m base w v cs) {row : Option Nat} (hg : w.grownBy w' row) (hne : v.ownBlock = none ∨ v.ownBlock ≠ row) : OwnG t m base w' v cs := ⟨h.owns.kept hg hne, h.small, h.wide⟩
theorem OwnG.turn {S : Nat → Prop} {t : TypeId} {m base : Nat} {w w' : World} {v : Value} {cs : List (List Value)} (h : OwnG t m base w v cs) (ht : Turn S w w') (ho : ∀ k, v.ownBlock = some k → ¬ S k) : OwnG t m base w' v cs := by
  refine ⟨⟨h.owns.1, ?_⟩, h.small, h.wide⟩
  rcases h.owns.2 with hn | ⟨g, cap, cur, hv, hb, hg, rest⟩
  · exact .inl hn
  · refine .inr ⟨g, cap, cur, hv, hb, ?_, rest⟩
    rw [ht.block g (Array.getElem?_eq_some_iff.1 hg).1 (ho g (by rw [hv]; rfl))]
    exact hg
theorem OwnG.below {t : TypeId} {m base : Nat} {w w' : World} {v : Value} {cs : List (List Value)} (h : OwnG t m base w v cs) (hb : Below w.heap.size w w') : OwnG t m base w' v cs :=
  h.turn (S := fun _ => False) (Turn.ofBelow hb rfl) (fun _ _ h => h)
theorem OwnG.lower {t : TypeId} {m base base' : Nat} {w : World} {v : Value} {cs : List (List Value)} (h : OwnG t m base w v cs) (hb : base' ≤ base) : OwnG t m base' w v cs := by
  refine ⟨⟨h.owns.1, ?_⟩, h.small, h.wide⟩
  rcases h.owns.2 with hn | ⟨g, cap, cur, hv, hbb, rest⟩
  · exact .inl hn
  · exact .inr ⟨g, cap, cur, hv, Nat.le_trans hb hbb, rest⟩
theorem OwnG.row {t : TypeId} {m base : Nat} {w : World} {v : Value} {cs : List (List Value)} (h : OwnG t m base w v cs) : ∃ q cap, v = .slice q cs.length cap ∧ RowG m w q cs.length cs ∧ cs.length ≤ cap ∧ ∀ x, q = some x → base ≤ x.block ∧ x.off = 0 ∧ x.block < w.heap.size := by
  obtain ⟨hown, hsm, hwd⟩ := h
  rcases hown.2 with ⟨rfl, h0⟩ | ⟨g, cap, cur, rfl, hb, hg, hnc, hcm, hcs, htake⟩
  · exact ⟨none, 0, by rw [h0], ⟨rfl, hsm, .inl h0⟩, by omega, fun x e => by cases e⟩
  · have hlt := (Array.getElem?_eq_some_iff.1 hg).1
    refine ⟨some ⟨g, 0, none⟩, cap, rfl, ⟨rfl, hsm, .inr ⟨g, 0, rfl, hlt, fun i hi j v hv => ?_⟩⟩, hnc, fun x e => by cases e; exact ⟨hb, rfl, hlt⟩⟩
    have hj : j < m := by
      have hi' : i < cs.length := hi
      have := (List.getElem?_eq_some_iff.1 hv).1
      rw [hwd (cs.getD i []) (by rw [List.getD_eq_getElem?_getD, List.getElem?_eq_getElem hi']; simp)] at this
      exact this
    have := hown.cells (g := g) rfl (i * m + j) v (by rw [flatten_get m cs hwd i j hi hj]; exact hv)
    rw [WideShapes.add_plain] at this
    rw [Nat.add_assoc]; exact this
/-- append(l, ..) of k elements that lie at ad. -/
theorem append_g {P : Program} {w : World} {ops : Array Oper} {rest : List Oper} {o : Oper} {a : Act} {Q : Exit → Act → World → Prop} (T t : TypeId) (z : Value) (m bytes : Nat) (hinfo : (P.info? t).map (fun i => (i.zero, i.size, i.bytes)) = some (some z, m, bytes)) (hzs : z.cells.size = m) (hm0 : 0 < m) (hT : P.underlying T = some (.slice t))
    (hgd : o.guard = none) (s x : Operand) (ho : o.op = .call { callee := .builtin .append, args := #[s, x], argTypes := #[T, T] })
    (base : Nat) (v : Value) (cs : List (List Value)) (hs : a.eval s = v) (hO : OwnG t m base w v cs) (ad : Addr) (k c : Nat) (ns : List (List Value)) (hk : ns.length = k) (hx : a.eval x = .slice (some ad) k c) (hw : ∀ u ∈ ns, u.length = m)
    (hnews : ∀ j u, ns.flatten[j]? = some u → w.cell? (ad.add j) = some u) (h1 : ∀ u ∈ ns.flatten, u.oneCell' = true)
    (h63 : cs.length + k ≤ maxLen) (hbytes : (cs.length + k) * bytes ≤ 140737488355328) (hbase : base ≤ w.heap.size)
    (h : ∀ v' w', OwnG t m base w' v' (cs ++ ns) → w.grownBy w' v.ownBlock → wpList P ops Q rest (a.put o.dst v') w') : wpList P ops Q (o :: rest) a w := by
  obtain ⟨i, hi, hz, hsz, hby⟩ := info_parts hinfo
  refine wpList_append_own w hgd s x T ho base t i z m bytes hT hi hz hsz hby hzs hm0 v cs.length cs.flatten hs hO.owns ad k c ns.flatten hx (by rw [flatten_len m ns hw, hk]) hnews h1 h63 hbytes hbase (fun v' w' h1 h2 _ => h v' w' ⟨?_, ?_, ?_⟩ h2)
  · rw [List.length_append, hk, List.flatten_append]; exact h1
  · rw [List.length_append, hk]; exact h63
  · intro c hc
    rcases List.mem_append.1 hc with hc | hc
    · exact hO.wide c hc
    · exact hw c hc
/-- append at a step of a region that draws. -/
theorem step_append_g {P : Program} {w : World} {ops : Array Oper} {o : Oper} {a : Act} {K : Act → World → Prop} {Q : Exit → Act → World → Prop} {E : Prop} (T t : TypeId) (z : Value) (m bytes : Nat) (hinfo : (P.info? t).map (fun i => (i.zero, i.size, i.bytes)) = some (some z, m, bytes)) (hzs : z.cells.size = m) (hm0 : 0 < m) (hT : P.underlying T = some (.slice t))
    (hgd : o.guard = none) (s x : Operand) (ho : o.op = .call { callee := .builtin .append, args := #[s, x], argTypes := #[T, T] })
    (base : Nat) (v : Value) (cs : List (List Value)) (hs : a.eval s = v) (hO : OwnG t m base w v cs) (ad : Addr) (k c : Nat) (ns : List (List Value)) (hk : ns.length = k) (hk0 : 0 < k) (hx : a.eval x = .slice (some ad) k c) (hw : ∀ u ∈ ns, u.length = m)
    (hnews : ∀ j u, ns.flatten[j]? = some u → w.cell? (ad.add j) = some u) (h1 : ∀ u ∈ ns.flatten, u.oneCell' = true)
    (h63 : cs.length + k ≤ maxLen) (hbytes : (cs.length + k) * bytes ≤ 140737488355328) (hbase : base ≤ w.heap.size)
    (h : ∀ g cap w', OwnG t m base w' (.slice (some ⟨g, 0, none⟩) (cs.length + k) cap) (cs ++ ns) → w.grownBy w' v.ownBlock → K (a.put o.dst (.slice (some ⟨g, 0, none⟩) (cs.length + k) cap)) w') : if Region.wanted o (yielded ops a.tmps) = true then Oper.wp P o a w K Q else E := by
  obtain ⟨i, hi, hz, hsz, hby⟩ := info_parts hinfo
  refine step_append_lies w hgd s x T ho base t i z m bytes hT hi hz hsz hby hzs hm0 v cs.length cs.flatten hs hO.owns ad k c ns.flatten hx (by rw [flatten_len m ns hw, hk]) hnews h1 (by omega) h63 hbytes hbase w.heap.size rfl (fun g cap w' h1 h2 _ _ => h g cap w' ⟨?_, ?_, ?_⟩ h2)
  · rw [List.length_append, hk, List.flatten_append]; exact h1
  · rw [List.length_append, hk]; exact h63
  · intro c hc
    rcases List.mem_append.1 hc with hc | hc
    · exact hO.wide c hc
    · exact hw c hc
end Go.Proofs.YtdmpopdacbdnlaaDoor
/- A block of cells that are all known, and may be written. No program. -/
namespace Go.Proofs.YtdmpopdacbdnlaaDoor
open Go.RowKit
set_option linter.unusedVariables false
structure Box (w : World) (b : Nat) (vs : List Value) : Prop where
  lt : b < w.heap.size
  cell : ∀ i v, vs[i]? = some v → w.cell? ⟨b, i, none⟩ = some v
  free : ∀ i, i < vs.length → w.frozen? ⟨b, i, none⟩ = false
theorem Box.new (w : World) (vs : List Value) (cs : Array Value) (t : TypeId) (hcs : cs = vs.toArray) (n : Nat) (hn : n = w.heap.size) : Box (w.alloc (.cells cs t)) n vs := by
  subst hcs; subst hn
  refine ⟨by simp, fun i v hv => ?_, fun i hi => by simp [go_sem]⟩
  simp [go_sem, hv]
theorem Box.turn {S : Nat → Prop} {w w' : World} {b : Nat} {vs : List Value} (h : Box w b vs) (t : Turn S w w') (hn : ¬ S b) : Box w' b vs :=
  ⟨Nat.lt_of_lt_of_le h.lt t.size, fun i v hv => (t.cell (p := ⟨b, i, none⟩) h.lt hn).trans (h.cell i v hv), fun i hi => (t.frozen (p := ⟨b, i, none⟩) h.lt hn).trans (h.free i hi)⟩
theorem Box.below {w w' : World} {b : Nat} {vs : List Value} (h : Box w b vs) (hb : Below w.heap.size w w') : Box w' b vs := h.turn (S := fun _ => False) (Turn.ofBelow hb rfl) (fun h => h)
theorem Box.set {w : World} {b : Nat} {vs : List Value} (h : Box w b vs) (i : Nat) (u : Value) (hi : i < vs.length) : Box (w.setCell ⟨b, i, none⟩ u) b (vs.set i u) := by
  refine ⟨by simpa [World.setCell] using h.lt, fun j v hv => ?_, fun j hj => ?_⟩
  · by_cases e : j = i
    · subst e
      have hs : w.cell? ⟨b, j, none⟩ = some (vs[j]'hi) := h.cell j _ (List.getElem?_eq_getElem hi)
      rw [List.getElem?_set_self hi] at hv
      cases hv
      exact World.cell?_setCell_same' _ _ _ (by rw [hs]; rfl)
    · rw [List.getElem?_set_ne (fun e' => e e'.symm)] at hv
      have hs := h.cell j v hv
      rw [← hs]
      exact World.cell?_setCell_other w _ _ _ (by intro e'; cases e'; exact e rfl)
  · rw [List.length_set] at hj
    rw [World.frozen?_setCell]
    exact h.free j hj
theorem Box.setTurn (w : World) (b i : Nat) (u : Value) : Turn (fun k => k = b) w (w.setCell ⟨b, i, none⟩ u) := (Turn.refl (fun k => k = b) w).setCell ⟨b, i, none⟩ (fun _ => rfl) u
theorem Turn.set4 (w : World) (b : Nat) (u0 u1 u2 u3 : Value) : Turn (fun k => k = b) w ((((w.setCell ⟨b, 0, none⟩ u0).setCell ⟨b, 1, none⟩ u1).setCell ⟨b, 2, none⟩ u2).setCell ⟨b, 3, none⟩ u3) :=
  ((((Turn.refl (fun k => k = b) w).setCell _ (fun _ => rfl) _).setCell _ (fun _ => rfl) _).setCell _ (fun _ => rfl) _).setCell _ (fun _ => rfl) _
end Go.Proofs.YtdmpopdacbdnlaaDoor
