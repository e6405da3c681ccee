/- A decoder in memory; tellSkips. -/
import Derived.Test.YtegbjlimiephlaaDoorFrMem
import Derived.Test.YtegbjlimiephlaaDoorCrcFits2
import Derived.Deep.RegionHeld3
import Derived.Deep.RegionLaw
import Derived.Test.YtegbjlimiephlaaDoorProg
namespace Go.Proofs.YtegbjlimiephlaaDoor
open Go.RowKit
set_option linter.unusedVariables false
set_option linter.unusedSimpArgs false
set_option maxHeartbeats 2000000
set_option maxRecDepth 20000
theorem infoIt : (Tryd.prog.info? 42).map (fun i => (i.zero, i.size, i.bytes)) = some (some (.agg #[.int .i64 0, .int .u8 0, .slice none 0 0]), 3, 40) := by kernel_rfl
theorem info8 : (Tryd.prog.info? 5).map (fun i => (i.zero, i.size, i.bytes)) = some (some (.int .u8 0), 1, 1) := by kernel_rfl
/-- A decoder at block g, whose blocks are those of S. -/
structure Dec (w : World) (g : Nat) (S : Nat → Prop) (d : St) : Prop where
  sg : S g
  lt : ∀ k, S k → k < w.heap.size
  mem : ∃ rq rn rc fq fn fc, w.cell? ⟨g, 0, none⟩ = some (.slice rq rn rc) ∧ OwnB 5 0 w (.slice rq rn rc) d.rest ∧ w.cell? ⟨g, 2, none⟩ = some (.slice fq fn fc) ∧ Fnd w fq fn fc d.found S (fun k => ¬ S k) ∧
    (∀ x, rq = some x → S x.block ∧ x.block ≠ g) ∧ (∀ x, fq = some x → S x.block ∧ x.block ≠ g ∧ ∀ y, rq = some y → x.block ≠ y.block)
  skips : w.cell? ⟨g, 1, none⟩ = some (.int .i64 (d.skips : Int))
  over : w.cell? ⟨g, 3, none⟩ = some (.bool d.over)
  f0 : w.frozen? ⟨g, 0, none⟩ = false
  f1 : w.frozen? ⟨g, 1, none⟩ = false
  f2 : w.frozen? ⟨g, 2, none⟩ = false
  f3 : w.frozen? ⟨g, 3, none⟩ = false
/-- What an act of a decoder leaves. -/
def DecTo (w w' : World) (g : Nat) (S : Nat → Prop) (d : St) : Prop := ∃ S', Dec w' g S' d ∧ Turn S w w' ∧ ∀ k, S' k → S k ∨ w.heap.size ≤ k
theorem Fnd.own' {w : World} {q : Option Addr} {n c : Nat} {its : List It} {own own' body : Nat → Prop} (h : Fnd w q n c its own body) (h1 : ∀ x, q = some x → own' x.block) : Fnd w q n c its own' body := by
  refine ⟨h.length, h.le, h.small, h.nil, h.at_.imp id ?_⟩
  rintro ⟨b, off, rfl, ho, rest⟩
  exact ⟨b, off, rfl, h1 _ rfl, rest⟩
theorem DecTo.trans {w w1 w2 : World} {g : Nat} {S : Nat → Prop} {d1 d2 : St} (h : DecTo w w1 g S d1) (k : ∀ S1, Dec w1 g S1 d1 → DecTo w1 w2 g S1 d2) : DecTo w w2 g S d2 := by
  obtain ⟨S1, h1, t1, n1⟩ := h
  obtain ⟨S2, h2, t2, n2⟩ := k S1 h1
  refine ⟨S2, h2, t1.trans t2 (fun x hx hs => (n1 x hs).elim id (fun h => by omega)), fun x hx => ?_⟩
  rcases n2 x hx with h | h
  · exact n1 x h
  · exact .inr (Nat.le_trans t1.size h)
theorem DecTo.refl {w : World} {g : Nat} {S : Nat → Prop} {d : St} (h : Dec w g S d) : DecTo w w g S d := ⟨S, h, Turn.refl _ _, fun _ h => .inl h⟩
/-- Other memory has turned. -/
theorem Dec.turn {T S : Nat → Prop} {w w' : World} {g : Nat} {d : St} (h : Dec w g S d) (t : Turn T w w') (hT : ∀ k, k < w.heap.size → T k → ¬ S k ∧ False) : Dec w' g S d := by
  obtain ⟨hsg, hlt, ⟨rq, rn, rc, fq, fn, fc, c0, hO, c2, hF, hr, hf⟩, c1, c3, f0, f1, f2, f3⟩ := h
  have nT : ∀ k, k < w.heap.size → ¬ T k := fun k hk ht => (hT k hk ht).2
  have hg := hlt g hsg
  have ng := nT g hg
  exact ⟨hsg, fun k hk => Nat.lt_of_lt_of_le (hlt k hk) t.size, ⟨rq, rn, rc, fq, fn, fc, (t.cell (p := ⟨g, 0, none⟩) hg ng).trans c0, hO.turn t (fun x hx => nT _ (hlt _ (hr x hx).1)), (t.cell (p := ⟨g, 2, none⟩) hg ng).trans c2,
    hF.turn t (fun x hx _ => nT _ (hlt _ (hf x hx).1)) (fun k hk _ => nT k hk), hr, hf⟩, (t.cell (p := ⟨g, 1, none⟩) hg ng).trans c1, (t.cell (p := ⟨g, 3, none⟩) hg ng).trans c3,
    (t.frozen (p := ⟨g, 0, none⟩) hg ng).trans f0, (t.frozen (p := ⟨g, 1, none⟩) hg ng).trans f1, (t.frozen (p := ⟨g, 2, none⟩) hg ng).trans f2, (t.frozen (p := ⟨g, 3, none⟩) hg ng).trans f3⟩
theorem Dec.below {S : Nat → Prop} {w w' : World} {g : Nat} {d : St} (h : Dec w g S d) (hb : Below w.heap.size w w') : Dec w' g S d :=
  h.turn (Turn.ofBelow (S := fun _ => False) hb rfl) (fun _ _ h => h.elim)
/-- d.skips = s -/
theorem Dec.setSkips {S : Nat → Prop} {w : World} {g : Nat} {d : St} (h : Dec w g S d) (s : Nat) : DecTo w (w.setCell ⟨g, 1, none⟩ (.int .i64 (s : Int))) g S ⟨d.rest, s, d.found, d.over⟩ := by
  obtain ⟨hsg, hlt, ⟨rq, rn, rc, fq, fn, fc, c0, hO, c2, hF, hr, hf⟩, c1, c3, f0, f1, f2, f3⟩ := h
  have t : Turn (fun k => k = g) w (w.setCell ⟨g, 1, none⟩ (.int .i64 (s : Int))) := Turn.set w ⟨g, _, none⟩ _
  exact ⟨S, ⟨hsg, fun k hk => Nat.lt_of_lt_of_le (hlt k hk) t.size, ⟨rq, rn, rc, fq, fn, fc, by simp [go_sem, c0, c1], hO.turn t (fun x hx => (hr x hx).2), by simp [go_sem, c1, c2], hF.turn t (fun x hx _ => (hf x hx).2.1) (fun k hk hn e => hn (e ▸ hsg)), hr, hf⟩,
    by simp [go_sem, c1], by simp [go_sem, c1, c3], by simp [go_sem, f0], by simp [go_sem, f1], by simp [go_sem, f2], by simp [go_sem, f3]⟩, t.mono (fun k _ e => e ▸ hsg), fun k hk => .inl hk⟩
theorem Dec.setOver {S : Nat → Prop} {w : World} {g : Nat} {d : St} (h : Dec w g S d) (s : Bool) : DecTo w (w.setCell ⟨g, 3, none⟩ (.bool s)) g S ⟨d.rest, d.skips, d.found, s⟩ := by
  obtain ⟨hsg, hlt, ⟨rq, rn, rc, fq, fn, fc, c0, hO, c2, hF, hr, hf⟩, c1, c3, f0, f1, f2, f3⟩ := h
  have t : Turn (fun k => k = g) w (w.setCell ⟨g, 3, none⟩ (.bool s)) := Turn.set w ⟨g, _, none⟩ _
  exact ⟨S, ⟨hsg, fun k hk => Nat.lt_of_lt_of_le (hlt k hk) t.size, ⟨rq, rn, rc, fq, fn, fc, by simp [go_sem, c0, c3], hO.turn t (fun x hx => (hr x hx).2), by simp [go_sem, c3, c2], hF.turn t (fun x hx _ => (hf x hx).2.1) (fun k hk hn e => hn (e ▸ hsg)), hr, hf⟩,
    by simp [go_sem, c1, c3], by simp [go_sem, c3], by simp [go_sem, f0], by simp [go_sem, f1], by simp [go_sem, f2], by simp [go_sem, f3]⟩, t.mono (fun k _ e => e ▸ hsg), fun k hk => .inl hk⟩
/-- d.found = append(..) -/
theorem Dec.setFound {S : Nat → Prop} {w w3 : World} {g : Nat} {d : St} (hsg : S g) (hlt : ∀ k, S k → k < w.heap.size) {rq fq : Option Addr} {rn rc fn fc n' c' : Nat} {q' : Option Addr} {its : List It} {N : Nat}
    (c0 : w.cell? ⟨g, 0, none⟩ = some (.slice rq rn rc)) (hO : OwnB 5 0 w (.slice rq rn rc) d.rest) (c2 : w.cell? ⟨g, 2, none⟩ = some (.slice fq fn fc)) (hr : ∀ x, rq = some x → S x.block ∧ x.block ≠ g) (hf : ∀ x, fq = some x → S x.block ∧ x.block ≠ g ∧ ∀ y, rq = some y → x.block ≠ y.block)
    (c1 : w.cell? ⟨g, 1, none⟩ = some (.int .i64 (d.skips : Int))) (c3 : w.cell? ⟨g, 3, none⟩ = some (.bool d.over)) (f0 : w.frozen? ⟨g, 0, none⟩ = false) (f1 : w.frozen? ⟨g, 1, none⟩ = false) (f2 : w.frozen? ⟨g, 2, none⟩ = false) (f3 : w.frozen? ⟨g, 3, none⟩ = false)
    (T3 : Turn (qblk fq) w w3) (hF3 : Fnd w3 q' n' c' its (fun k => S k ∨ k = N) (fun k => ¬ S k ∧ k < N)) (hq3 : ∀ y, q' = some y → qblk fq y.block ∨ y.block = N) (hN : w.heap.size ≤ N) (hc' : 0 < c') :
    DecTo w (w3.setCell ⟨g, 2, none⟩ (.slice q' n' c')) g S ⟨d.rest, d.skips, its, d.over⟩ := by
  have hg := hlt g hsg
  have hng : ¬ qblk fq g := fun ⟨x, e, e2⟩ => (hf x e).2.1 e2
  have b0 := (T3.cell (p := ⟨g, 0, none⟩) hg hng).trans c0
  have b1 := (T3.cell (p := ⟨g, 1, none⟩) hg hng).trans c1
  have b2 := (T3.cell (p := ⟨g, 2, none⟩) hg hng).trans c2
  have b3 := (T3.cell (p := ⟨g, 3, none⟩) hg hng).trans c3
  have e0 := (T3.frozen (p := ⟨g, 0, none⟩) hg hng).trans f0
  have e1 := (T3.frozen (p := ⟨g, 1, none⟩) hg hng).trans f1
  have e2 := (T3.frozen (p := ⟨g, 2, none⟩) hg hng).trans f2
  have e3 := (T3.frozen (p := ⟨g, 3, none⟩) hg hng).trans f3
  have t : Turn (fun k => k = g) w3 (w3.setCell ⟨g, 2, none⟩ (.slice q' n' c')) := Turn.set w3 ⟨g, _, none⟩ _
  have hqS : ∀ y, q' = some y → qblk fq y.block → S y.block := fun y _ ⟨x, e, e2⟩ => e2 ▸ (hf x e).1
  have hb : ∀ y, q' = some y → y.block < w3.heap.size := by
    intro y hy
    rcases hF3.at_ with h0 | ⟨b, off, hq, _, hb, _⟩
    · omega
    · rw [hy] at hq; cases hq; exact hb
  have hyg : ∀ y, q' = some y → y.block ≠ g := by
    intro y hy e
    rcases hq3 y hy with h | h
    · exact hng (e ▸ h)
    · omega
  refine ⟨fun k => S k ∨ qblk q' k, ⟨.inl hsg, fun k hk => ?_, ⟨rq, rn, rc, q', n', c', by simp [go_sem, b0, b2], (hO.turn T3 ?_).turn t (fun x hx => (hr x hx).2), by simp [go_sem, b2], ?_, fun x hx => ⟨.inl (hr x hx).1, (hr x hx).2⟩, fun x hx => ⟨.inr ⟨x, hx, rfl⟩, hyg x hx, fun y hy => ?_⟩⟩,
    by simp [go_sem, b1, b2], by simp [go_sem, b3, b2], by simp [go_sem, e0], by simp [go_sem, e1], by simp [go_sem, e2], by simp [go_sem, e3]⟩, ?_, fun k hk => ?_⟩
  · rcases hk with hk | ⟨y, hy, rfl⟩
    · exact Nat.lt_of_lt_of_le (hlt k hk) (Nat.le_trans T3.size t.size)
    · exact Nat.lt_of_lt_of_le (hb y hy) t.size
  · rintro x hx ⟨y, hy, e⟩
    exact (hf y hy).2.2 x hx e
  · have hF4 := (hF3.own' (own' := fun k => S k ∨ qblk q' k) (fun x hx => .inr ⟨x, hx, rfl⟩)).mono (fun _ _ h => h) (body' := fun k => ¬ (S k ∨ qblk q' k)) (fun k hk ⟨h1, h2⟩ h => by
      rcases h with h | ⟨y, hy, e⟩
      · exact h1 h
      · rcases hq3 y hy with h | h
        · exact h1 (e ▸ hqS y hy h)
        · omega)
    exact hF4.turn t (fun x hx _ => hyg x hx) (fun k hk hn e => hn (.inl (e ▸ hsg)))
  · intro e
    rcases hq3 x hx with ⟨z, hz, e2⟩ | h
    · exact (hf z hz).2.2 y hy (e2.trans e)
    · have := hlt _ (hr y hy).1; omega
  · exact (T3.mono (fun k _ ⟨x, e, e2⟩ => e2 ▸ (hf x e).1)).trans t (fun k _ e => e ▸ hsg)
  · rcases hk with hk | ⟨y, hy, rfl⟩
    · exact .inl hk
    · rcases hq3 y hy with h | h
      · exact .inl (hqS y hy h)
      · exact .inr (by omega)
/-- d.rest = append(..) -/
theorem Dec.setRest {S : Nat → Prop} {w w3 : World} {g : Nat} {d : St} (hsg : S g) (hlt : ∀ k, S k → k < w.heap.size) {rq fq : Option Addr} {rn rc fn fc n' c' : Nat} {q' : Option Addr} {l' : List UInt8}
    (c0 : w.cell? ⟨g, 0, none⟩ = some (.slice rq rn rc)) (c2 : w.cell? ⟨g, 2, none⟩ = some (.slice fq fn fc)) (hF : Fnd w fq fn fc d.found S (fun k => ¬ S k)) (hr : ∀ x, rq = some x → S x.block ∧ x.block ≠ g) (hf : ∀ x, fq = some x → S x.block ∧ x.block ≠ g ∧ ∀ y, rq = some y → x.block ≠ y.block)
    (c1 : w.cell? ⟨g, 1, none⟩ = some (.int .i64 (d.skips : Int))) (c3 : w.cell? ⟨g, 3, none⟩ = some (.bool d.over)) (f0 : w.frozen? ⟨g, 0, none⟩ = false) (f1 : w.frozen? ⟨g, 1, none⟩ = false) (f2 : w.frozen? ⟨g, 2, none⟩ = false) (f3 : w.frozen? ⟨g, 3, none⟩ = false)
    (T3 : Turn (qblk rq) w w3) (hO3 : OwnB 5 0 w3 (.slice q' n' c') l') (hq3 : ∀ y, q' = some y → qblk rq y.block ∨ w.heap.size ≤ y.block) :
    DecTo w (w3.setCell ⟨g, 0, none⟩ (.slice q' n' c')) g S ⟨l', d.skips, d.found, d.over⟩ := by
  have hg := hlt g hsg
  have hng : ¬ qblk rq g := fun ⟨x, e, e2⟩ => (hr x e).2 e2
  have b0 := (T3.cell (p := ⟨g, 0, none⟩) hg hng).trans c0
  have b1 := (T3.cell (p := ⟨g, 1, none⟩) hg hng).trans c1
  have b2 := (T3.cell (p := ⟨g, 2, none⟩) hg hng).trans c2
  have b3 := (T3.cell (p := ⟨g, 3, none⟩) hg hng).trans c3
  have e0 := (T3.frozen (p := ⟨g, 0, none⟩) hg hng).trans f0
  have e1 := (T3.frozen (p := ⟨g, 1, none⟩) hg hng).trans f1
  have e2 := (T3.frozen (p := ⟨g, 2, none⟩) hg hng).trans f2
  have e3 := (T3.frozen (p := ⟨g, 3, none⟩) hg hng).trans f3
  have t : Turn (fun k => k = g) w3 (w3.setCell ⟨g, 0, none⟩ (.slice q' n' c')) := Turn.set w3 ⟨g, _, none⟩ _
  have hqS : ∀ y, q' = some y → qblk rq y.block → S y.block := fun y _ ⟨x, e, e2⟩ => e2 ▸ (hr x e).1
  have hb : ∀ y, q' = some y → y.block < w3.heap.size := fun y hy => (hO3.owns.lt y.block (by rw [hy]; rfl)).2
  have hyg : ∀ y, q' = some y → y.block ≠ g := by
    intro y hy e
    rcases hq3 y hy with h | h
    · exact hng (e ▸ h)
    · omega
  have hfl := hF
  refine ⟨fun k => S k ∨ qblk q' k, ⟨.inl hsg, fun k hk => ?_, ⟨q', n', c', fq, fn, fc, by simp [go_sem, b0], hO3.turn t hyg, by simp [go_sem, b0, b2], ?_, fun x hx => ⟨.inr ⟨x, hx, rfl⟩, hyg x hx⟩, fun x hx => ⟨.inl (hf x hx).1, (hf x hx).2.1, fun y hy => ?_⟩⟩,
    by simp [go_sem, b1, b0], by simp [go_sem, b3, b0], by simp [go_sem, e0], by simp [go_sem, e1], by simp [go_sem, e2], by simp [go_sem, e3]⟩, ?_, fun k hk => ?_⟩
  · rcases hk with hk | ⟨y, hy, rfl⟩
    · exact Nat.lt_of_lt_of_le (hlt k hk) (Nat.le_trans T3.size t.size)
    · exact Nat.lt_of_lt_of_le (hb y hy) t.size
  · have hF1 := (hF.mono (fun k _ h => h) (body' := fun k => ¬ S k ∧ k < w.heap.size) (fun k hk h => ⟨h, hk⟩)).turn T3 (fun x hx _ ⟨y, hy, e⟩ => (hf x hx).2.2 y hy e.symm) (fun k hk hn ⟨y, hy, e⟩ => hn.1 (e ▸ (hr y hy).1))
    have hF4 := hF1.mono (fun k _ h => (Or.inl h : S k ∨ qblk q' k)) (body' := fun k => ¬ (S k ∨ qblk q' k)) (fun k hk ⟨h1, h2⟩ h => by
      rcases h with h | ⟨y, hy, e⟩
      · exact h1 h
      · rcases hq3 y hy with h | h
        · exact h1 (e ▸ hqS y hy h)
        · omega)
    exact hF4.turn t (fun x hx _ => (hf x hx).2.1) (fun k hk hn e => hn (.inl (e ▸ hsg)))
  · intro e
    rcases hq3 y hy with ⟨z, hz, e2⟩ | h
    · exact (hf x hx).2.2 z hz (e.trans e2.symm)
    · have := hlt _ (hf x hx).1; omega
  · exact (T3.mono (fun k _ ⟨x, e, e2⟩ => e2 ▸ (hr x e).1)).trans t (fun k _ e => e ▸ hsg)
  · rcases hk with hk | ⟨y, hy, rfl⟩
    · exact .inl hk
    · rcases hq3 y hy with h | h
      · exact .inl (hqS y hy h)
      · exact .inr h
theorem tell_any (g : Nat) (S : Nat → Prop) (d : St) (w : World) (h : Dec w g S d) (h1 : d.found.length ≤ 1000000) (h2 : d.skips ≤ 1000000) :
    Calls Tryd.prog 33 #[.pointer (some ⟨g, 0, none⟩)] w fun e w' => e = .returned (.tuple #[]) ∧ DecTo w w' g S ⟨d.rest, 0, Fr.tell d.skips d.found, d.over⟩ := by
  obtain ⟨hsg, hlt, ⟨rq, rn, rc, fq, fn, fc, c0, hO, c2, hF, hr, hf⟩, c1, c3, f0, f1, f2, f3⟩ := h
  have hg := hlt g hsg
  by_cases h0 : 0 < d.skips
  · have hi0 : (0 : Int) < (d.skips : Int) := by omega
    have hnb : ∀ k, S k → ¬ (¬ S k) := fun k hk hn => hn hk
    go_enter Tryd.func33, Tryd.ntmps33
    go_wp2_with fail
    have hn1 : w.heap.size ≠ g := by omega
    have T1 : Turn (fun _ => False) w ((w.alloc (.cells #[.int .i64 (d.skips : Int), .int .u8 0, .slice none 0 0] 42)).drew) := ((Turn.refl _ w).alloc _).drew
    have F1 := (hF.turn T1 (fun _ _ _ h => h) (fun _ _ _ h => h)).mono (fun _ _ h => h) (body' := fun k => ¬ S k ∧ k < w.heap.size + 1) (fun k hk h => ⟨h, by simpa using hk⟩)
    have hng : ¬ qblk fq g := fun ⟨x, e, e2⟩ => (hf x e).2.1 e2
    go_region_law (refine step_append_fnd 55 42 _ 40 infoIt rfl Tryd.underlying55 rfl (.tmp 11) (.tmp 17) rfl rfl F1 (fun k hk hn => hn.1 hk) w.heap.size 1 rfl ⟨d.skips, 0, []⟩ ⟨by simp [go_sem], by simp [go_sem], none, 0, 0, by simp [go_sem], ⟨rfl, by decide, Nat.le_refl _, .inl rfl, fun _ => rfl⟩, fun y e => by cases e⟩ (by have := hF.length; omega) (by have := hF.length; unfold maxLen; omega) ?_; intro q' c' w3 hF3 hT3 hq3; have T3 : Turn (qblk fq) w w3 := (T1.mono (fun _ _ h => h.elim)).trans hT3 (fun _ _ h => h); have b0 := (T3.cell (p := ⟨g, 0, none⟩) hg hng).trans c0; have b1 := (T3.cell (p := ⟨g, 1, none⟩) hg hng).trans c1; have b2 := (T3.cell (p := ⟨g, 2, none⟩) hg hng).trans c2; have b3 := (T3.cell (p := ⟨g, 3, none⟩) hg hng).trans c3; have e0 := (T3.frozen (p := ⟨g, 0, none⟩) hg hng).trans f0; have e1 := (T3.frozen (p := ⟨g, 1, none⟩) hg hng).trans f1; have e2 := (T3.frozen (p := ⟨g, 2, none⟩) hg hng).trans f2; have e3 := (T3.frozen (p := ⟨g, 3, none⟩) hg hng).trans f3)
    all_goals go_wp2_with fail
    all_goals (go_end0; refine ⟨rfl, DecTo.trans (d1 := ⟨d.rest, d.skips, d.found ++ [⟨d.skips, 0, []⟩], d.over⟩) (Dec.setFound hsg hlt c0 hO c2 hr hf c1 c3 f0 f1 f2 f3 T3 (N := w.heap.size + 1) (by simpa using hF3) (fun y hy => (hq3 y hy).imp (fun h => h.1) (fun h => by simpa using h)) (by omega) (by have := hF3.le; omega)) (fun S1 h1 => ?_)⟩; unfold Fr.tell; rw [if_pos h0]; exact h1.setSkips 0)
  · have hs : d.skips = 0 := by omega
    have hD : Dec w g S d := ⟨hsg, hlt, ⟨rq, rn, rc, fq, fn, fc, c0, hO, c2, hF, hr, hf⟩, c1, c3, f0, f1, f2, f3⟩
    have hE := hD.setSkips 0
    rw [hs] at c1
    replace hE := Lib.hid hE
    clear hD
    go_enter Tryd.func33, Tryd.ntmps33
    go_wp2_with fail
    go_end0
    refine ⟨rfl, ?_⟩
    unfold Fr.tell
    rw [if_neg h0]
    exact hE.out
end Go.Proofs.YtegbjlimiephlaaDoor
