/- From one world to another no block has turned but some. No program. -/
import Derived.Test.YtegbjlimiephlaaDoorKit
namespace Go.Proofs.YtegbjlimiephlaaDoor
open Go.RowKit
set_option linter.unusedVariables false
/-- From w to w' no block has turned but those of S, and new ones. -/
structure Turn (S : Nat → Prop) (w w' : World) : Prop where
  os : w'.os = w.os
  tape : w'.tape = w.tape
  output : w'.output = w.output
  size : w.heap.size ≤ w'.heap.size
  block : ∀ k, k < w.heap.size → ¬ S k → w'.heap[k]? = w.heap[k]?
theorem Turn.refl (S : Nat → Prop) (w : World) : Turn S w w := ⟨rfl, rfl, rfl, Nat.le_refl _, fun _ _ _ => rfl⟩
theorem Turn.trans {S T : Nat → Prop} {a b c : World} (h : Turn S a b) (k : Turn T b c) (hT : ∀ x, x < a.heap.size → T x → S x) : Turn S a c :=
  ⟨k.os.trans h.os, k.tape.trans h.tape, k.output.trans h.output, Nat.le_trans h.size k.size, fun i hi hn => (k.block i (Nat.lt_of_lt_of_le hi h.size) (fun t => hn (hT i hi t))).trans (h.block i hi hn)⟩
theorem Turn.mono {S T : Nat → Prop} {a b : World} (h : Turn S a b) (hT : ∀ x, x < a.heap.size → S x → T x) : Turn T a b := ⟨h.os, h.tape, h.output, h.size, fun i hi hn => h.block i hi (fun t => hn (hT i hi t))⟩
theorem Turn.ofBelow {S : Nat → Prop} {a b : World} {n : Nat} (h : Below n a b) (hn : n = a.heap.size) : Turn S a b := ⟨h.os, h.tape, h.output, h.size, fun i hi _ => h.block i (by omega)⟩
theorem Turn.ofGrown {S : Nat → Prop} {a b : World} {r : Option Nat} (h : a.grownBy b r) (hr : ∀ k, r = some k → k < a.heap.size → S k) : Turn S a b :=
  ⟨h.os, h.tape, h.output, h.size, fun i hi hn => h.block i hi (fun e => hn (hr i e.symm hi))⟩
theorem Turn.drew {S : Nat → Prop} {a w : World} (h : Turn S a w) : Turn S a w.drew := ⟨h.os, h.tape, h.output, h.size, h.block⟩
theorem Turn.alloc {S : Nat → Prop} {a w : World} (h : Turn S a w) (o : Obj) : Turn S a (w.alloc o) :=
  h.trans (T := fun _ => False) ⟨rfl, rfl, rfl, by simp, fun k hk _ => Below.heap_alloc _ _ _ hk⟩ (fun _ _ h => h.elim)
theorem Turn.setCell {S : Nat → Prop} {a w : World} (h : Turn S a w) (p : Addr) (hp : p.block < a.heap.size → S p.block) (u : Value) : Turn S a (w.setCell p u) :=
  h.trans (T := fun k => k = p.block) ⟨rfl, rfl, rfl, by simp [World.setCell], fun k _ hn => Below.heap_setCell _ _ _ _ hn⟩ (fun x hx e => by subst e; exact hp hx)
theorem Turn.set (w : World) (a : Addr) (u : Value) : Turn (fun k => k = a.block) w (w.setCell a u) := (Turn.refl (fun k => k = a.block) w).setCell a (fun _ => rfl) u
theorem Turn.below {S : Nat → Prop} {w w' : World} (h : Turn S w w') {B : Nat} (hB : B ≤ w.heap.size) (hS : ∀ k, k < B → ¬ S k) : Below B w w' := ⟨h.os, h.tape, h.output, h.size, fun k hk => h.block k (by omega) (hS k hk)⟩
theorem Turn.cell {S : Nat → Prop} {w w' : World} (h : Turn S w w') {p : Addr} (hp : p.block < w.heap.size) (hn : ¬ S p.block) : w'.cell? p = w.cell? p := World.cell?_of_block (w := w) (h.block p.block hp hn)
theorem Turn.frozen {S : Nat → Prop} {w w' : World} (h : Turn S w w') {p : Addr} (hp : p.block < w.heap.size) (hn : ¬ S p.block) : w'.frozen? p = w.frozen? p := World.frozen?_of_block (w := w) (h.block p.block hp hn)
theorem Turn.grown {w w' : World} {g : Nat} (h : Turn (fun k => k = g) w w') : w.grownBy w' (some g) := ⟨h.os, h.tape, h.output, h.size, fun k hk hn => h.block k hk (fun e => hn (by rw [e]))⟩
/-- where a slice of bytes lies apart from what may turn, it reads as it did -/
def Off (S : Nat → Prop) (q : Option Addr) : Prop := ∀ x, q = some x → ¬ S x.block
theorem RowB.turn {S : Nat → Prop} {w w' : World} {q : Option Addr} {len cap : Nat} {bs : List UInt8} (h : RowB w q len cap bs) (ht : Turn S w w') (ho : Off S q) : RowB w' q len cap bs :=
  ⟨h.length, h.small, h.le, by
    rcases h.at_ with h0 | ⟨b, off, rfl, hl, hc⟩
    · exact .inl h0
    · exact .inr ⟨b, off, rfl, Nat.lt_of_lt_of_le hl ht.size, fun i hi => (ht.cell (p := ⟨b, off + i, none⟩) hl (ho ⟨b, off, none⟩ rfl)).trans (hc i hi)⟩, h.nil⟩
theorem OwnB.turn {S : Nat → Prop} {t : TypeId} {base : Nat} {w w' : World} {q : Option Addr} {n c : Nat} {l : List UInt8} (h : OwnB t base w (.slice q n c) l) (ht : Turn S w w') (ho : Off S q) : OwnB t base w' (.slice q n c) l := by
  refine ⟨⟨h.owns.1, ?_⟩, h.small⟩
  rcases h.owns.2 with hn | ⟨g, cap, cur, hv, hb, hg, rest⟩
  · exact .inl hn
  · refine .inr ⟨g, cap, cur, hv, hb, ?_, rest⟩
    have hq : q = some ⟨g, 0, none⟩ := by
      have := hv
      simp only [Value.slice.injEq] at this
      exact this.1
    rw [ht.block g (Array.getElem?_eq_some_iff.1 hg).1 (ho _ hq)]
    exact hg
end Go.Proofs.YtegbjlimiephlaaDoor
