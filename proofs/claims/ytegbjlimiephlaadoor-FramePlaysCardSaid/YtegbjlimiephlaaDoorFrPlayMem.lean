/- A decoder beside a cell that holds no byte: what is stored there leaves the decoder. -/
import Derived.Test.YtegbjlimiephlaaDoorFrRNext
import Derived.Test.YtegbjlimiephlaaDoorFrAll
namespace Go.Proofs.YtegbjlimiephlaaDoor
open Go.RowKit
set_option linter.unusedVariables false
set_option linter.unusedSimpArgs false
set_option maxHeartbeats 4000000
set_option maxRecDepth 20000
/-- block X holds no byte -/
def NoU8 (w : World) (X : Nat) : Prop := ∀ (o : Nat) (v : Int), w.cell? ⟨X, o, none⟩ ≠ some (.int .u8 v)
theorem NoU8.turn {T : Nat → Prop} {w w' : World} {X : Nat} (h : NoU8 w X) (hX : X < w.heap.size) (t : Turn T w w') (hT : ¬ T X) : NoU8 w' X := fun o v e => h o v ((t.cell (p := ⟨X, o, none⟩) hX hT).symm.trans e)
theorem NoU8.set {w : World} {X : Nat} (h : NoU8 w X) (o : Nat) (u z : Value) (hz : w.cell? ⟨X, o, none⟩ = some z) (hu : ∀ v, u ≠ .int .u8 v) : NoU8 (w.setCell ⟨X, o, none⟩ u) X := fun o' v e => by
  by_cases ho : o' = o
  · subst ho
    have : (w.setCell ⟨X, o', none⟩ u).cell? ⟨X, o', none⟩ = some u := by simp [go_sem, hz]
    rw [this] at e
    exact hu v (Option.some.inj e)
  · have : (w.setCell ⟨X, o, none⟩ u).cell? ⟨X, o', none⟩ = w.cell? ⟨X, o', none⟩ := by simp [go_sem, ho]
    rw [this] at e
    exact h o' v e
theorem RowB.apart {w w' : World} {X : Nat} {q : Option Addr} {n c : Nat} {bs : List UInt8} (h : RowB w q n c bs) (hX : NoU8 w X) (t : Turn (fun k => k = X) w w') : RowB w' q n c bs := by
  refine ⟨h.length, h.small, h.le, ?_, h.nil⟩
  rcases h.at_ with h0 | ⟨b, off, rfl, hl, hc⟩
  · exact .inl h0
  · by_cases hn : n = 0
    · exact .inl hn
    · have hb : b ≠ X := fun e => by
        subst e
        exact hX _ _ (hc 0 (by omega))
      exact .inr ⟨b, off, rfl, Nat.lt_of_lt_of_le hl t.size, fun i hi => (t.cell (p := ⟨b, off + i, none⟩) hl hb).trans (hc i hi)⟩
theorem Fnd.apart {w w' : World} {X : Nat} {q : Option Addr} {n c : Nat} {its : List It} {own body : Nat → Prop} (h : Fnd w q n c its own body) (hX : NoU8 w X) (t : Turn (fun k => k = X) w w') (ho : ¬ own X) : Fnd w' q n c its own body := by
  refine ⟨h.length, h.le, h.small, h.nil, ?_⟩
  rcases h.at_ with h0 | ⟨b, off, rfl, hob, hb, hs, hi⟩
  · exact .inl h0
  · have hn : b ≠ X := fun e => ho (e ▸ hob)
    refine .inr ⟨b, off, rfl, hob, Nat.lt_of_lt_of_le hb t.size, fun j hj => ⟨by rw [t.cell (p := ⟨b, off + j, none⟩) hb hn]; exact (hs j hj).1, by rw [t.frozen (p := ⟨b, off + j, none⟩) hb hn]; exact (hs j hj).2⟩, fun i hin => ?_⟩
    obtain ⟨c0, c1, q, n, c, c2, hr, hq⟩ := hi i hin
    exact ⟨(t.cell (p := ⟨b, off + i * 3, none⟩) hb hn).trans c0, (t.cell (p := ⟨b, off + i * 3 + 1, none⟩) hb hn).trans c1, q, n, c, (t.cell (p := ⟨b, off + i * 3 + 2, none⟩) hb hn).trans c2, hr.apart hX t, fun y hy => ⟨(hq y hy).1, Nat.lt_of_lt_of_le (hq y hy).2 t.size⟩⟩
theorem Dec.apart2 {w w' : World} {g X : Nat} {S : Nat → Prop} {d : St} (h : Dec w g S d) (hX : NoU8 w X) (hS : ¬ S X) (t : Turn (fun k => k = X) w w') : Dec w' g S d := by
  obtain ⟨hsg, hlt, ⟨rq, rn, rc, fq, fn, fc, c0, hO, c2, hF, hr, hf⟩, c1, c3, f0, f1, f2, f3⟩ := h
  have hg := hlt g hsg
  have hn : g ≠ X := fun e => hS (e ▸ hsg)
  exact ⟨hsg, fun k hk => Nat.lt_of_lt_of_le (hlt k hk) t.size, ⟨rq, rn, rc, fq, fn, fc, (t.cell (p := ⟨g, 0, none⟩) hg hn).trans c0, hO.turn t (fun x hx e => hS (e ▸ (hr x hx).1)), (t.cell (p := ⟨g, 2, none⟩) hg hn).trans c2, hF.apart hX t hS, hr, hf⟩,
    (t.cell (p := ⟨g, 1, none⟩) hg hn).trans c1, (t.cell (p := ⟨g, 3, none⟩) hg hn).trans c3, (t.frozen (p := ⟨g, 0, none⟩) hg hn).trans f0, (t.frozen (p := ⟨g, 1, none⟩) hg hn).trans f1, (t.frozen (p := ⟨g, 2, none⟩) hg hn).trans f2, (t.frozen (p := ⟨g, 3, none⟩) hg hn).trans f3⟩
/-- how much a decoder holds: no act but Give makes it more -/
def St.size (d : St) : Nat := d.found.length + d.skips + 2 * d.rest.length
theorem St.give_size (d : St) (b : List UInt8) : (d.give b).size ≤ d.size + 2 * b.length := by
  unfold St.give
  split
  · omega
  · have := Fr.pass_bound false (d.rest ++ b) d.skips d.found
    rw [List.length_append] at this
    unfold St.size
    simp only
    omega
theorem St.fin_size (d : St) : d.fin.size ≤ d.size := by
  unfold St.fin
  split
  · omega
  · have := Fr.pass_bound true d.rest d.skips d.found
    have h2 := Fr.tell_le (Fr.pass true d.rest d.skips d.found).2.1 (Fr.pass true d.rest d.skips d.found).2.2
    unfold St.size
    simp only
    omega
theorem St.next_size (d : St) : d.next.size ≤ d.size := by
  unfold St.next St.size
  simp only [List.length_drop]
  omega
/-- the decoder and the reference's beside it, which is laid at X -/
structure Beside (w0 w : World) (g X : Nat) (S : Nat → Prop) (dp dr : St) (q : Option Addr) (n c : Nat) : Prop where
  dec : Dec w g S dp
  ns : ¬ S X
  old : ∀ k, S k → w0.heap.size ≤ k
  box : BoxD w X (.string ⟨dr.rest.toArray⟩) (dr.skips : Int) (.slice q n c) dr.over
  row : RowR w q n c dr.found
  off : ∀ x, q = some x → x.block < w.heap.size ∧ x.block ≠ X ∧ ¬ S x.block
  no : NoU8 w X
  far : w0.heap.size ≤ X
  bel : Below w0.heap.size w0 w
section
variable {w0 w w1 : World} {g X : Nat} {S : Nat → Prop} {dp dp' dr dr' : St} {q : Option Addr} {n c : Nat}
theorem Beside.act (h : Beside w0 w g X S dp dr q n c) (k : DecTo w w1 g S dp') : ∃ S', Beside w0 w1 g X S' dp' dr q n c := by
  obtain ⟨S', hD, t, hn⟩ := k
  have hX := h.box.lt
  exact ⟨S', hD, fun e => (hn X e).elim h.ns (fun e => by omega), fun k hk => (hn k hk).elim (h.old k) (fun e => Nat.le_trans h.bel.size e), h.box.turn t h.ns, h.row.turn t (fun x hx => (h.off x hx).2.2),
    fun x hx => ⟨Nat.lt_of_lt_of_le (h.off x hx).1 t.size, (h.off x hx).2.1, fun e => (hn _ e).elim (h.off x hx).2.2 (fun e => by have := (h.off x hx).1; omega)⟩, h.no.turn hX t h.ns, h.far,
    h.bel.trans (t.below h.bel.size (fun k hk e => by have := h.old k e; omega))⟩
theorem Beside.below (h : Beside w0 w g X S dp dr q n c) (hb : Below w.heap.size w w1) : Beside w0 w1 g X S dp dr q n c := by
  have t : Turn (fun _ => False) w w1 := Turn.ofBelow hb rfl
  exact ⟨h.dec.below hb, h.ns, h.old, h.box.turn t (fun e => e), h.row.below hb, fun x hx => ⟨Nat.lt_of_lt_of_le (h.off x hx).1 hb.size, (h.off x hx).2⟩, h.no.turn h.box.lt t (fun e => e), h.far, h.bel.trans (hb.mono h.bel.size)⟩
theorem Beside.ref {v : Value} (h : Beside w0 w g X S dp dr q n c) (hb : Below w.heap.size w w1) (hv : RD w1 v dr' q w.heap.size) :
    ∃ q' n' c', v = .agg #[.string ⟨dr'.rest.toArray⟩, .int .i64 (dr'.skips : Int), .slice q' n' c', .bool dr'.over] ∧ RowR w1 q' n' c' dr'.found ∧ (∀ x, q' = some x → x.block < w1.heap.size ∧ x.block ≠ X ∧ ¬ S x.block) := by
  obtain ⟨q', n', c', rfl, hR, hq⟩ := hv
  refine ⟨q', n', c', rfl, hR, fun x hx => ⟨(hq x hx).1, ?_⟩⟩
  rcases (hq x hx).2 with e | e
  · exact (h.off x (e ▸ hx)).2
  · have hX := h.box.lt
    exact ⟨by omega, fun hs => by have := h.dec.lt _ hs; omega⟩
theorem Beside.store {q' : Option Addr} {n' c' : Nat} (h : Beside w0 w g X S dp dr q n c) (hR : RowR w q' n' c' dr'.found) (hq : ∀ x, q' = some x → x.block < w.heap.size ∧ x.block ≠ X ∧ ¬ S x.block) :
    Beside w0 ((((w.setCell ⟨X, 0, none⟩ (.string ⟨dr'.rest.toArray⟩)).setCell ⟨X, 1, none⟩ (.int .i64 (dr'.skips : Int))).setCell ⟨X, 2, none⟩ (.slice q' n' c')).setCell ⟨X, 3, none⟩ (.bool dr'.over)) g X S dp dr' q' n' c' := by
  obtain ⟨Z, T⟩ := h.box.set (.string ⟨dr'.rest.toArray⟩) (dr'.skips : Int) (.slice q' n' c') dr'.over
  have N : NoU8 ((((w.setCell ⟨X, 0, none⟩ (.string ⟨dr'.rest.toArray⟩)).setCell ⟨X, 1, none⟩ (.int .i64 (dr'.skips : Int))).setCell ⟨X, 2, none⟩ (.slice q' n' c')).setCell ⟨X, 3, none⟩ (.bool dr'.over)) X := by
    obtain ⟨lt, c0, c1, c2, c3, _, _, _, _⟩ := h.box
    exact (((h.no.set 0 _ _ c0 (fun v e => by cases e)).set 1 _ (.int .i64 (dr.skips : Int)) (by simp [go_sem, *]) (fun v e => by cases e)).set 2 _ (.slice q n c) (by simp [go_sem, *]) (fun v e => by cases e)).set 3 _ (.bool dr.over) (by simp [go_sem, *]) (fun v e => by cases e)
  generalize (((w.setCell ⟨X, 0, none⟩ (.string ⟨dr'.rest.toArray⟩)).setCell ⟨X, 1, none⟩ (.int .i64 (dr'.skips : Int))).setCell ⟨X, 2, none⟩ (.slice q' n' c')).setCell ⟨X, 3, none⟩ (.bool dr'.over) = w' at *
  have hf := h.far
  exact ⟨h.dec.apart2 h.no h.ns T, h.ns, h.old, Z, hR.turn T (fun x hx => (hq x hx).2.1), fun x hx => ⟨Nat.lt_of_lt_of_le (hq x hx).1 T.size, (hq x hx).2⟩, N, h.far, h.bel.trans (T.below h.bel.size (fun k hk e => by omega))⟩
end
end Go.Proofs.YtegbjlimiephlaaDoor
