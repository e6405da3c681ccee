/- lookoutlaw04.all: the items of pieces. -/
import Derived.Test.YtegbjlimiephlaaDoorFrAwake
import Derived.Test.YtegbjlimiephlaaDoorFrAllLaw
namespace Go.Proofs.YtegbjlimiephlaaDoor
open Go.RowKit
set_option linter.unusedVariables false
set_option linter.unusedSimpArgs false
set_option maxHeartbeats 4000000
set_option maxRecDepth 20000
/-- A slice of slices of bytes that may be read. -/
structure RowBB (w : World) (a : Option Addr) (len : Nat) (bss : List (List UInt8)) : Prop where
  length : bss.length = len
  small : len ≤ maxLen
  at_ : len = 0 ∨ ∃ b off, a = some ⟨b, off, none⟩ ∧ b < w.heap.size ∧ ∀ i, i < len → ∃ q n c, w.cell? ⟨b, off + i, none⟩ = some (.slice q n c) ∧ RowB w q n c (bss.getD i [])
theorem RowBB.below {w w' : World} {a : Option Addr} {len : Nat} {bss : List (List UInt8)} (h : RowBB w a len bss) (hb : Below w.heap.size w w') : RowBB w' a len bss :=
  ⟨h.length, h.small, h.at_.imp id (fun ⟨b, off, e, hl, hc⟩ => ⟨b, off, e, Nat.lt_of_lt_of_le hl hb.size, fun i hi => by
    obtain ⟨q, n, c, h1, h2⟩ := hc i hi
    exact ⟨q, n, c, (hb.cell (p := ⟨b, off + i, none⟩) hl).trans h1, h2.below hb⟩⟩)⟩
theorem Fnd.and {w : World} {q : Option Addr} {n c : Nat} {its : List It} {own own2 body body2 : Nat → Prop} (h : Fnd w q n c its own body) (k : Fnd w q n c its own2 body2) : Fnd w q n c its own (fun b => body b ∧ body2 b) := by
  refine ⟨h.length, h.le, h.small, h.nil, ?_⟩
  rcases h.at_ with h0 | ⟨b, off, rfl, ho, hb, hr, hi⟩
  · exact .inl h0
  rcases k.at_ with h0 | ⟨b', off', e, ho', hb', hr', hi'⟩
  · exact .inl h0
  cases e
  refine .inr ⟨b, off, rfl, ho, hb, hr, fun i hin => ?_⟩
  obtain ⟨c0, c1, q, m, cc, c2, hR, hq⟩ := hi i hin
  obtain ⟨_, _, q', m', cc', c2', _, hq'⟩ := hi' i hin
  rw [c2] at c2'
  cases c2'
  exact ⟨c0, c1, q, m, cc, c2, hR, fun y hy => ⟨⟨(hq y hy).1, (hq' y hy).1⟩, (hq y hy).2⟩⟩
/-- The bodies of what was found lie in blocks of E. -/
def BodIn (w : World) (g : Nat) (d : St) (E : Nat → Prop) : Prop := ∀ fq fn fc, w.cell? ⟨g, 2, none⟩ = some (.slice fq fn fc) → Fnd w fq fn fc d.found (fun _ => True) E
theorem BodIn.of {w : World} {g : Nat} {d : St} {E : Nat → Prop} {fq : Option Addr} {fn fc : Nat} (c2 : w.cell? ⟨g, 2, none⟩ = some (.slice fq fn fc)) (h : Fnd w fq fn fc d.found (fun _ => True) E) : BodIn w g d E := by
  intro q n c hc
  rw [c2] at hc
  cases hc
  exact h
theorem Dec.bod {w : World} {g : Nat} {S : Nat → Prop} {d : St} (h : Dec w g S d) : BodIn w g d (fun b => b < w.heap.size) := by
  obtain ⟨rq, rn, rc, fq, fn, fc, hM⟩ := h.m
  exact BodIn.of hM.c2 (hM.fnd.mono (fun _ _ _ => trivial) (fun k hk _ => hk))
theorem bod_first {w : World} {b off fn fc : Nat} {it : It} {its found : List It} {E : Nat → Prop} {q : Option Addr} {n c : Nat} (h : Fnd w (some ⟨b, off, none⟩) fn fc found (fun _ => True) E) (h0 : found = it :: its) (d2 : w.cell? ⟨b, off + 2, none⟩ = some (.slice q n c)) (hl : its.length + 1 = fn) : ∀ y, q = some y → E y.block := by
  have hle := h.le
  rcases h.at_ with hc | ⟨b', off', e, _, _, _, hi⟩
  · omega
  cases e
  obtain ⟨_, _, q', m, cc, c2, _, hq⟩ := hi 0 (by omega)
  rw [Nat.zero_mul, Nat.add_zero, d2] at c2
  cases c2
  exact fun y hy => (hq y hy).1
theorem Dec.apart {w w' : World} {g : Nat} {S T E : Nat → Prop} {d : St} (h : Dec w g S d) (hE : BodIn w g d E) (t : Turn T w w') (hT : ∀ k, k < w.heap.size → T k → ¬ S k) (hTE : ∀ k, E k → ¬ T k) : Dec w' g S d ∧ BodIn w' g d E := by
  obtain ⟨rq, rn, rc, fq, fn, fc, hM⟩ := h.m
  have hg := hM.lt g hM.sg
  have nT : ∀ k, S k → ¬ T k := fun k hk ht => hT k (hM.lt k hk) ht hk
  have ng := nT g hM.sg
  have hF := (hM.fnd.and (hE _ _ _ hM.c2)).turn t (fun x hx _ => nT _ (hM.hf x hx).1) (fun k hk hb => hTE k hb.2)
  refine ⟨DecM.dec ⟨hM.sg, fun k hk => Nat.lt_of_lt_of_le (hM.lt k hk) t.size, (t.cell (p := ⟨g, 0, none⟩) hg ng).trans hM.c0, hM.own.turn t (fun x hx => nT _ (hM.hr x hx).1), (t.cell (p := ⟨g, 2, none⟩) hg ng).trans hM.c2,
    hF.mono (fun _ _ h => h) (fun _ _ h => h.1), hM.hr, hM.hf, (t.cell (p := ⟨g, 1, none⟩) hg ng).trans hM.c1, (t.cell (p := ⟨g, 3, none⟩) hg ng).trans hM.c3,
    (t.frozen (p := ⟨g, 0, none⟩) hg ng).trans hM.f0, (t.frozen (p := ⟨g, 1, none⟩) hg ng).trans hM.f1, (t.frozen (p := ⟨g, 2, none⟩) hg ng).trans hM.f2, (t.frozen (p := ⟨g, 3, none⟩) hg ng).trans hM.f3⟩, ?_⟩
  exact BodIn.of ((t.cell (p := ⟨g, 2, none⟩) hg ng).trans hM.c2) (hF.mono (fun _ _ _ => trivial) (fun _ _ h => h.2))
theorem next_some2 (g : Nat) (S : Nat → Prop) (d : St) (w : World) (h : Dec w g S d) (it : It) (its : List It) (h0 : d.found = it :: its) : Calls Tryd.prog 17 #[.pointer (some ⟨g, 0, none⟩)] w fun e w' => ∃ q n c, e = .returned (.tuple #[.agg #[.int .i64 (it.skip : Int), .int .u8 (it.kind.toNat : Int), .slice q n c], .bool true]) ∧ RowB w' q n c it.body ∧ (∀ y, q = some y → ¬ S y.block ∧ y.block < w.heap.size) ∧ DecTo w w' g S d.next ∧ ∀ E, BodIn w g d E → BodIn w' g d.next E ∧ ∀ y, q = some y → E y.block := by
  obtain ⟨rq, rn, rc, fq, fn, fc, hM⟩ := h.m
  have hg := hM.lt g hM.sg
  have c2 := hM.c2
  have f2 := hM.f2
  have hl := hM.fnd.length
  rw [h0] at hl
  simp at hl
  have hle := hM.fnd.le
  have hsm := hM.fnd.small
  unfold maxLen at hsm
  rcases hM.fnd.at_ with hc0 | ⟨b, off, rfl, hob, hbl, hroom, hit⟩
  · omega
  have i0 := hit 0 (by omega)
  rw [h0] at i0
  simp only [List.getD_cons_zero, Nat.zero_mul, Nat.add_zero] at i0
  obtain ⟨d0, d1, q, n, c, d2, hR, hq⟩ := i0
  have r0 := (hroom 0 (by omega)).2
  have r1 := (hroom 1 (by omega)).2
  have r2 := (hroom 2 (by omega)).2
  rw [Nat.add_zero] at r0
  have hbg : b ≠ g := (hM.hf _ rfl).2.1
  have hn1 : (0 : Int) < (fn : Int) := by omega
  have hn2 : (1 : Int) ≤ (fn : Int) := by omega
  have hn3 : (1 : Int) ≤ (fc : Int) := by omega
  have hzf : (fn == 0) = false := by rw [beq_eq_false_iff_ne]; omega
  have hzi : ((fn : Int) == 0) = false := by rw [beq_eq_false_iff_ne]; omega
  by_cases h1 : fn = 1
  · subst h1
    obtain rfl : its = [] := List.eq_nil_of_length_eq_zero (by omega)
    replace hl := Lib.hid hl
    replace h0 := Lib.hid h0
    clear hit
    by_cases hcc : fc = 1
    · subst hcc
      go_enter Tryd.func17, Tryd.ntmps17
      go_wp2_with fail
      have hTp := popped_turn w b off; have hD1 := next_last hM (.slice (some ⟨b, off, none⟩) 0 0); have hR1 := ((hR.turn hTp (fun y hy e => (hq y hy).1 (e ▸ hob))).turn (Turn.set _ ⟨g, 2, none⟩ (.slice (some ⟨b, off, none⟩) 0 0)) (fun y hy e => (hq y hy).1 (e ▸ hM.sg))).turn (Turn.set _ ⟨g, 2, none⟩ (.slice none 0 0)) (fun y hy e => (hq y hy).1 (e ▸ hM.sg)); have hdn : d.next = ⟨d.rest, d.skips, [], d.over⟩ := (by unfold St.next; rw [h0.out]; rfl); refine bodyPost_ret (v := .tuple #[.agg #[.int .i64 (it.skip : Int), .int .u8 (it.kind.toNat : Int), .slice q n c], .bool true]) (by simp [results, Tryd.results17, go_sem]) rfl ⟨q, n, c, rfl, hR1.below (((Below.refl _ _).alloc (Nat.le_refl _) _).alloc (by simp) _), hq, ?_, fun E hE => ⟨?_, fun y hy => bod_first (hE _ _ _ hM.c2) h0.out d2 hl.out y hy⟩⟩; (rw [hdn]; exact hD1.below (((Below.refl _ _).alloc (Nat.le_refl _) _).alloc (by simp) _)); rw [hdn]; have p2 := (hTp.cell (p := ⟨g, 2, none⟩) hg (fun e => hbg e.symm)).trans hM.c2; refine BodIn.of (fq := none) (fn := 0) (fc := 0) ?_ (Fnd.empty _ _ _); have hs : g < (((popped w b off).setCell ⟨g, 2, none⟩ (.slice (some ⟨b, off, none⟩) 0 0)).setCell ⟨g, 2, none⟩ (.slice none 0 0)).heap.size := Nat.lt_of_lt_of_le (Nat.lt_of_lt_of_le (Nat.lt_of_lt_of_le hg hTp.size) (Turn.set (popped w b off) ⟨g, 2, none⟩ (.slice (some ⟨b, off, none⟩) 0 0)).size) (Turn.set _ ⟨g, 2, none⟩ (.slice none 0 0)).size; exact ((((Below.refl _ _).alloc (Nat.le_refl _) _).alloc (by simp) _ : Below (((popped w b off).setCell ⟨g, 2, none⟩ (.slice (some ⟨b, off, none⟩) 0 0)).setCell ⟨g, 2, none⟩ (.slice none 0 0)).heap.size _ _).cell (p := ⟨g, 2, none⟩) hs).trans (by simp [go_sem, p2])
    · have hc1 : (1 : Int) < (fc : Int) := by omega
      go_enter Tryd.func17, Tryd.ntmps17
      go_wp2_with fail
      have hTp := popped_turn w b off; have hD1 := next_last hM (.slice (some ⟨b, off + 3, none⟩) 0 (fc - 1)); have hR1 := ((hR.turn hTp (fun y hy e => (hq y hy).1 (e ▸ hob))).turn (Turn.set _ ⟨g, 2, none⟩ (.slice (some ⟨b, off + 3, none⟩) 0 (fc - 1))) (fun y hy e => (hq y hy).1 (e ▸ hM.sg))).turn (Turn.set _ ⟨g, 2, none⟩ (.slice none 0 0)) (fun y hy e => (hq y hy).1 (e ▸ hM.sg)); have hdn : d.next = ⟨d.rest, d.skips, [], d.over⟩ := (by unfold St.next; rw [h0.out]; rfl); refine bodyPost_ret (v := .tuple #[.agg #[.int .i64 (it.skip : Int), .int .u8 (it.kind.toNat : Int), .slice q n c], .bool true]) (by simp [results, Tryd.results17, go_sem]) rfl ⟨q, n, c, rfl, hR1.below (((Below.refl _ _).alloc (Nat.le_refl _) _).alloc (by simp) _), hq, ?_, fun E hE => ⟨?_, fun y hy => bod_first (hE _ _ _ hM.c2) h0.out d2 hl.out y hy⟩⟩; (rw [hdn]; exact hD1.below (((Below.refl _ _).alloc (Nat.le_refl _) _).alloc (by simp) _)); rw [hdn]; have p2 := (hTp.cell (p := ⟨g, 2, none⟩) hg (fun e => hbg e.symm)).trans hM.c2; refine BodIn.of (fq := none) (fn := 0) (fc := 0) ?_ (Fnd.empty _ _ _); have hs : g < (((popped w b off).setCell ⟨g, 2, none⟩ (.slice (some ⟨b, off + 3, none⟩) 0 (fc - 1))).setCell ⟨g, 2, none⟩ (.slice none 0 0)).heap.size := Nat.lt_of_lt_of_le (Nat.lt_of_lt_of_le (Nat.lt_of_lt_of_le hg hTp.size) (Turn.set (popped w b off) ⟨g, 2, none⟩ (.slice (some ⟨b, off + 3, none⟩) 0 (fc - 1))).size) (Turn.set _ ⟨g, 2, none⟩ (.slice none 0 0)).size; exact ((((Below.refl _ _).alloc (Nat.le_refl _) _).alloc (by simp) _ : Below (((popped w b off).setCell ⟨g, 2, none⟩ (.slice (some ⟨b, off + 3, none⟩) 0 (fc - 1))).setCell ⟨g, 2, none⟩ (.slice none 0 0)).heap.size _ _).cell (p := ⟨g, 2, none⟩) hs).trans (by simp [go_sem, p2])
  · have hc1 : (1 : Int) < (fc : Int) := by omega
    have hzi2 : ((fn : Int) - 1 == 0) = false := by rw [beq_eq_false_iff_ne]; omega
    have hzf2 : (fn - 1 == 0) = false := by rw [beq_eq_false_iff_ne]; omega
    replace hl := Lib.hid hl
    replace h0 := Lib.hid h0
    clear hit
    go_enter Tryd.func17, Tryd.ntmps17
    go_wp2_with fail
    have hFp := (h0.out ▸ hM.fnd : Fnd w (some ⟨b, off, none⟩) fn fc (it :: its) S (fun k => ¬ S k)).pop (by omega) (fun k hk hn => hn hk)
    have hTp := popped_turn w b off
    have hD1 := hM.setFound (q' := some ⟨b, off + 3, none⟩) (n' := fn - 1) (c' := fc - 1) (its := its) (N := w.heap.size) (hTp.mono (fun k _ e => ⟨_, rfl, e.symm⟩)) ((hFp.mono (fun _ _ h => Or.inl h) (fun k hk h => ⟨h, by have := hTp.size; simpa [popped] using hk⟩))) (fun y hy => by cases hy; exact .inl ⟨_, rfl, rfl⟩) (Nat.le_refl _) (by omega)
    have hR1 := (hR.turn hTp (fun y hy e => (hq y hy).1 (e ▸ hob))).turn (Turn.set _ ⟨g, 2, none⟩ (.slice (some ⟨b, off + 3, none⟩) (fn - 1) (fc - 1))) (fun y hy e => (hq y hy).1 (e ▸ hM.sg))
    have hdn : d.next = ⟨d.rest, d.skips, its, d.over⟩ := by unfold St.next; rw [h0.out]; rfl
    refine bodyPost_ret (v := .tuple #[.agg #[.int .i64 (it.skip : Int), .int .u8 (it.kind.toNat : Int), .slice q n c], .bool true]) (by simp [results, Tryd.results17, go_sem]) rfl ⟨q, n, c, rfl, hR1.below (((Below.refl _ _).alloc (Nat.le_refl _) _).alloc (by simp) _), hq, ?_, fun E hE => ⟨?_, fun y hy => ?_⟩⟩
    · rw [hdn]
      exact hD1.below (((Below.refl _ _).alloc (Nat.le_refl _) _).alloc (by simp) _)
    · rw [hdn]
      have hFE := hE _ _ _ hM.c2
      rw [h0.out] at hFE
      have hFa := ((h0.out ▸ hM.fnd : Fnd w (some ⟨b, off, none⟩) fn fc (it :: its) S (fun k => ¬ S k)).and hFE).pop (by omega) (fun k hk hn => hn.1 hk)
      have hTg := Turn.set (popped w b off) ⟨g, 2, none⟩ (.slice (some ⟨b, off + 3, none⟩) (fn - 1) (fc - 1))
      have hFb := (hFa.turn hTg (fun x hx _ => by cases hx; exact hbg) (fun k _ hk e => hk.1 (e ▸ hM.sg))).turn (Turn.ofBelow (S := fun _ => False) (((Below.refl _ _).alloc (Nat.le_refl _) (.cells #[.int .i64 (it.skip : Int), .int .u8 (it.kind.toNat : Int), .slice q n c] 42)).alloc (by simp) (.cells #[.int .i64 (it.skip : Int), .int .u8 (it.kind.toNat : Int), .slice q n c] 42)) rfl) (fun _ _ _ h => h) (fun _ _ _ h => h)
      have hTp2 := popped_turn w b off
      have p2 := (hTp2.cell (p := ⟨g, 2, none⟩) hg (fun e => hbg e.symm)).trans hM.c2
      have hgp : g < (popped w b off).heap.size := Nat.lt_of_lt_of_le hg hTp2.size
      refine BodIn.of (fq := some ⟨b, off + 3, none⟩) (fn := fn - 1) (fc := fc - 1) ?_ (hFb.mono (fun _ _ _ => trivial) (fun _ _ h => h.2))
      have hs : g < ((popped w b off).setCell ⟨g, 2, none⟩ (.slice (some ⟨b, off + 3, none⟩) (fn - 1) (fc - 1))).heap.size := Nat.lt_of_lt_of_le hgp hTg.size
      exact ((((Below.refl _ _).alloc (Nat.le_refl _) _).alloc (by simp) _ : Below ((popped w b off).setCell ⟨g, 2, none⟩ (.slice (some ⟨b, off + 3, none⟩) (fn - 1) (fc - 1))).heap.size _ _).cell (p := ⟨g, 2, none⟩) hs).trans (by simp [go_sem, p2])
    · exact bod_first (hE _ _ _ hM.c2) h0.out d2 hl.out y hy
theorem next_any (g : Nat) (S : Nat → Prop) (d : St) (w : World) (h : Dec w g S d) : Calls Tryd.prog 17 #[.pointer (some ⟨g, 0, none⟩)] w fun e w' => ∃ q n c, e = .returned (.tuple #[.agg #[.int .i64 ((d.found.getD 0 It.no).skip : Int), .int .u8 ((d.found.getD 0 It.no).kind.toNat : Int), .slice q n c], .bool (decide (0 < d.found.length))]) ∧ RowB w' q n c (d.found.getD 0 It.no).body ∧ (∀ y, q = some y → ¬ S y.block ∧ y.block < w.heap.size) ∧ DecTo w w' g S d.next ∧ ∀ E, BodIn w g d E → BodIn w' g d.next E ∧ ∀ y, q = some y → E y.block := by
  cases hf : d.found with
  | nil =>
    refine (next_empty g S d w h hf).mono ?_
    rintro e w' ⟨rfl, hb⟩
    have hd : d.next = d := by obtain ⟨r, s, f, o⟩ := d; simp only at hf; subst hf; rfl
    refine ⟨none, 0, 0, rfl, ⟨rfl, by decide, Nat.le_refl _, .inl rfl, fun _ => rfl⟩, (fun y e => by cases e), ?_, fun E hE => ⟨?_, fun y e => by cases e⟩⟩
    · rw [hd]
      exact (DecTo.refl h).below hb
    · rw [hd]
      exact (h.apart hE (Turn.ofBelow (S := fun _ => False) hb rfl) (fun _ _ h => h.elim) (fun _ _ h => h)).2
  | cons it its =>
    refine (next_some2 g S d w h it its hf).mono ?_
    rintro e w' ⟨q, n, c, rfl, hR, hq, hD, hE⟩
    exact ⟨q, n, c, rfl, hR, hq, hD, hE⟩
/-- What is collected of a decoder's items (whose blocks are S), beside the box at X; all of it made behind B0, the bodies ahead of it. -/
structure Coll (w : World) (S : Nat → Prop) (X B0 : Nat) (oq : Option Addr) (on oc : Nat) (its : List It) : Prop where
  fnd : Fnd w oq on oc its (qblk oq) (fun b => ¬ S b ∧ b < B0)
  off : ∀ b, qblk oq b → ¬ S b ∧ b ≠ X ∧ B0 ≤ b ∧ b < w.heap.size
theorem Coll.turn {w w' : World} {S S' T : Nat → Prop} {X B0 : Nat} {oq : Option Addr} {on oc : Nat} {its : List It} (h : Coll w S X B0 oq on oc its) (t : Turn T w w') (hX : B0 ≤ X) (hB : B0 ≤ w.heap.size) (hT : ∀ k, k < w.heap.size → T k → S k ∨ k = X) (hS : ∀ k, S' k → S k ∨ w.heap.size ≤ k) : Coll w' S' X B0 oq on oc its := by
  refine ⟨?_, fun b hb => ?_⟩
  · refine (h.fnd.turn t ?_ ?_).mono (fun _ _ h => h) ?_
    · intro x hx _ ht
      obtain ⟨h1, h2, h3, h4⟩ := h.off x.block ⟨x, hx, rfl⟩
      exact (hT _ h4 ht).elim h1 h2
    · rintro k hk ⟨h1, h2⟩ ht
      exact (hT _ hk ht).elim h1 (fun e => by omega)
    · rintro k hk ⟨h1, h2⟩
      exact ⟨fun hs => (hS k hs).elim h1 (fun h => by omega), h2⟩
  · obtain ⟨h1, h2, h3, h4⟩ := h.off b hb
    exact ⟨fun hs => (hS b hs).elim h1 (fun h => by omega), h2, h3, Nat.lt_of_lt_of_le h4 t.size⟩
/-- one item more -/
theorem Coll.push {w w3 : World} {S : Nat → Prop} {X B0 : Nat} {oq oq' : Option Addr} {on on' oc oc' : Nat} {its : List It} {it : It} (h : Coll w S X B0 oq on oc its) (hs : ∀ k, S k → k < w.heap.size) (hX : X < w.heap.size) (hB : B0 ≤ w.heap.size) (t : Turn (qblk oq) w w3)
    (hF : Fnd w3 oq' on' oc' (its ++ [it]) (fun k => qblk oq k ∨ k = w.heap.size) (fun b => ¬ S b ∧ b < B0)) (hq : ∀ y, oq' = some y → qblk oq y.block ∨ y.block = w.heap.size) (hc : 0 < oc') : Coll w3 S X B0 oq' on' oc' (its ++ [it]) := by
  refine ⟨hF.own' (own' := qblk oq') (fun x hx => ⟨x, hx, rfl⟩), fun b hb' => ?_⟩
  obtain ⟨y, hy, rfl⟩ := hb'
  have hlt : y.block < w3.heap.size := by
    rcases hF.at_ with h0 | ⟨b, off, e, _, hl, _⟩
    · omega
    · rw [hy] at e; cases e; exact hl
  rcases hq y hy with h' | h'
  · obtain ⟨h1, h2, h3, h4⟩ := h.off _ h'
    exact ⟨h1, h2, h3, hlt⟩
  · exact ⟨fun hs' => by have := hs _ hs'; omega, by omega, by omega, hlt⟩
theorem St.sz_parts (d : St) : d.found.length + d.skips + d.rest.length = d.sz := rfl
theorem all_any (a : Option Addr) (len cap : Nat) (bss : List (List UInt8)) (w : World) (h : RowBB w a len bss) (hT : Tab w) (hlen : len ≤ 100000) (htot : tot bss ≤ 100000) :
    Calls Tryd.prog 24 #[.slice a len cap] w fun e w' => ∃ q n c own body, e = .returned (.slice q n c) ∧ Fnd w' q n c (items bss) own body ∧ Below w.heap.size w w' := by
  have LL := Lib.hid h.length
  have hg0 := hT.lt
  have hst : ∀ k, tot (bss.take k) ≤ 100000 := fun k => Nat.le_trans (tot_take_le bss k) htot
  go_enter Tryd.func24, Tryd.ntmps24
  go_wp2_with fail
  refine (new_any w).mono ?_; rintro e w1 ⟨g, rfl, hg, ⟨S, hD, hS⟩, hb1⟩
  go_wp2_with fail
  go_loopw [4, 5] (fun n i wr => ∃ k : Nat, k ≤ len ∧ i = .int .i64 k ∧ n = .int .i64 ((2 + tot (bss.take k) : Nat) : Int) ∧ ∃ S, Dec wr g S (givesAll (bss.take k)) ∧ (∀ x, S x → w.heap.size ≤ x) ∧ Below w.heap.size w wr) (fun n i wr => len - (intOf i).toNat)
  case atStart => exact ⟨0, Nat.zero_le _, rfl, rfl, S, hD, hS, hb1⟩
  case round =>
    clear hD hS
    obtain ⟨k, hk, rfl, rfl, S, hD, hS, hbr⟩ := hrel
    have zr := hbr.size
    have hTS : ¬ S 0 := fun hs => by have := hS _ hs; omega
    have hsz := givesAll_sz (bss.take k)
    have ht0 := hst k
    have htk := tot_take_le bss k
    by_cases hlt : k < len
    · rcases h.at_ with h0 | ⟨b, off, rfl, hlb, hc⟩
      · omega
      obtain ⟨q, n, c, ck0, hR0⟩ := hc k hlt
      have ck := (hbr.cell (p := ⟨b, off + k, none⟩) hlb).trans ck0
      have hkl : k < bss.length := by have := LL.out; omega
      have h1 : givesAll (bss.take (k + 1)) = (givesAll (bss.take k)).give (bss.getD k []) := by rw [takeBB_succ hkl, givesAll_snoc]
      have h2 : tot (bss.take (k + 1)) = tot (bss.take k) + n := by rw [takeBB_succ hkl, tot_snoc, hR0.length]
      have ht1 := hst (k + 1)
      have hR := hR0.below hbr
      generalize bss.getD k [] = bk at *
      clear hc ck0 hR0
      have hk0 : (0 : Int) ≤ (k : Int) := by omega
      have hk1 : (k : Int) < (len : Int) := by omega
      have hp := (givesAll (bss.take k)).sz_parts
      generalize hgA : givesAll (bss.take k) = dk at *
      generalize hgC : tot (bss.take k) = tk at *
      replace h1 := Lib.hid h1
      rw [h2] at ht1
      replace h2 := Lib.hid h2
      replace hp := Lib.hid hp
      clear hgA hgC
      have hbound : dk.found.length + dk.skips + 2 * (dk.rest.length + n) ≤ 1000000 := by have := hp.out; omega
      go_wp2_with fail
      refine (give_any g S dk wr hD (hT.below hbr) hTS q n c bk hR hbound).mono ?_; rintro e w3 ⟨rfl, S3, hD3, t3, n3⟩
      have B3 := hbr.trans ((t3.below zr (fun x hx hs => by have := hS x hs; omega)))
      have ck3 := ((t3.below (B := w.heap.size) zr (fun x hx hs => by have := hS x hs; omega)).cell (p := ⟨b, off + k, none⟩) hlb).trans ck
      clear ck
      go_wp2_with fail
      go_roundw
      case rel => exact ⟨k + 1, by omega, by go_num, by rw [h2.out]; go_num, S3, by rw [h1.out]; exact hD3, fun x hx => (n3 x hx).elim (hS x) (fun h => by omega), B3⟩
      case measure => simp [intOf] <;> omega
    · obtain rfl : k = len := by omega
      rw [List.take_of_length_le (by rw [LL.out]; exact Nat.le_refl _)] at *
      have hp := (givesAll bss).sz_parts
      have hbound : (givesAll bss).found.length + (givesAll bss).skips + 2 * (givesAll bss).rest.length ≤ 1000000 := by omega
      have hil := items_le bss
      obtain ⟨N, hN⟩ : ∃ N, tot bss = N := ⟨_, rfl⟩
      rw [hN] at hil ht0
      obtain ⟨its, hits⟩ : ∃ its, items bss = its := ⟨_, rfl⟩
      have hfin : (givesAll bss).fin.found = its := hits
      rw [hits] at hil
      replace hits := Lib.hid hits
      replace hN := Lib.hid hN
      clear hsz htk hp
      go_wp2_with fail
      refine (end_any g S _ wr hD (hT.below hbr) hTS hbound).mono ?_; rintro e w3 ⟨rfl, S3, hD3, t3, n3⟩
      have B3 := hbr.trans ((t3.below zr (fun x hx hs => by have := hS x hs; omega)))
      have hS3 : ∀ x, S3 x → w.heap.size ≤ x := fun x hx => (n3 x hx).elim (hS x) (fun h => by omega)
      obtain ⟨D, hDeq⟩ : ∃ D, (givesAll bss).fin = D := ⟨_, rfl⟩
      rw [hDeq] at hD3 hfin
      replace hDeq := Lib.hid hDeq
      obtain ⟨r, s, f, o⟩ := D
      simp only at hfin
      subst hfin
      go_wp2_with fail
      have hBD3 := hD3.bod
      have z3 := B3.size
      refine (next_any g S3 _ w3 hD3).mono ?_; rintro e w4 ⟨q4, n4, c4, rfl, hR4, hq4, ⟨S4, hD4, t4, n4'⟩, hE4⟩
      have B4 := B3.trans ((t4.below z3 (fun x hx hs => by have := hS3 x hs; omega)))
      have hS4 : ∀ x, S4 x → w.heap.size ≤ x := fun x hx => (n4' x hx).elim (hS3 x) (fun h => by omega)
      obtain ⟨hBD4, hqE⟩ := hE4 _ hBD3
      have z4 := t4.size
      generalize hB0 : w3.heap.size = B0 at *
      replace hB0 := Lib.hid hB0
      simp only [St.next] at hD4 hBD4
      obtain ⟨it0, hit0⟩ : ∃ it, f.getD 0 It.no = it := ⟨_, rfl⟩
      simp only [hit0] at hR4 ⊢
      go_wp2_with fail
      have A5 : Below w4.heap.size w4 (w4.alloc (.cells #[.int .i64 (it0.skip : Int), .int .u8 (it0.kind.toNat : Int), .slice q4 n4 c4] 42)) := (Below.refl _ _).alloc (Nat.le_refl _) _
      have hD5 := hD4.below A5
      have kX : ¬ S4 w4.heap.size := fun h => by have := hD4.lt _ h; omega
      have hIt : ItCells (w4.alloc (.cells #[.int .i64 (it0.skip : Int), .int .u8 (it0.kind.toNat : Int), .slice q4 n4 c4] 42)) w4.heap.size 0 it0 (fun b => ¬ S4 b ∧ b < B0) := by
        refine ⟨by simp [go_sem], by simp [go_sem], q4, n4, c4, by simp [go_sem], hR4.below A5, fun y hy => ⟨⟨fun hs => ?_, (hq4 y hy).2⟩, by have := (hq4 y hy).2; simp; omega⟩⟩
        exact (n4' _ hs).elim (hq4 y hy).1 (fun h => by have := (hq4 y hy).2; omega)
      have F0 : ∀ o, (w4.alloc (.cells #[.int .i64 (it0.skip : Int), .int .u8 (it0.kind.toNat : Int), .slice q4 n4 c4] 42)).frozen? ⟨w4.heap.size, o, none⟩ = false := fun o => by simp [go_sem]
      have hXlt : w4.heap.size < (w4.alloc (.cells #[.int .i64 (it0.skip : Int), .int .u8 (it0.kind.toNat : Int), .slice q4 n4 c4] 42)).heap.size := by simp
      have hC0 : Coll (w4.alloc (.cells #[.int .i64 (it0.skip : Int), .int .u8 (it0.kind.toNat : Int), .slice q4 n4 c4] 42)) S4 w4.heap.size B0 none 0 0 [] := ⟨Fnd.empty _ _ _, fun b ⟨x, e, _⟩ => by cases e⟩
      have hBD5 := (hD4.apart hBD4 (Turn.ofBelow (S := fun _ => False) A5 rfl) (fun _ _ h => h.elim) (fun _ _ h => h)).2
      have B5 := B4.trans (A5.mono B4.size)
      generalize hX : w4.heap.size = X at *
      replace hX := Lib.hid hX
      have hXB : B0 ≤ X := z4
      generalize w4.alloc (.cells #[.int .i64 (it0.skip : Int), .int .u8 (it0.kind.toNat : Int), .slice q4 n4 c4] 42) = w5 at *
      have hdl : f.length ≤ N := hil
      replace hit0 := Lib.hid hit0
      clear hR4 hq4 hE4 hqE hBD4 hD4 hBD3 hD3 A5
      go_loopw [6, 8, 9] (fun out is i wr => ∃ k : Nat, k ≤ f.length ∧ i = .int .i64 k ∧ is = .bool (decide (k < f.length)) ∧ ∃ oq oc, out = .slice oq k oc ∧ ∃ S, Dec wr g S ⟨r, s, f.drop (k + 1), o⟩ ∧ BodIn wr g ⟨r, s, f.drop (k + 1), o⟩ (fun b => b < B0) ∧ (∀ x, S x → w.heap.size ≤ x) ∧ ¬ S X ∧ Coll wr S X B0 oq k oc (f.take k) ∧ ItCells wr X 0 (f.getD k It.no) (fun b => ¬ S b ∧ b < B0) ∧ X < wr.heap.size ∧ (∀ o, wr.frozen? ⟨X, o, none⟩ = false) ∧ Below w.heap.size w wr) (fun out is i wr => f.length - (intOf i).toNat)
      case atStart => exact ⟨0, Nat.zero_le _, rfl, rfl, none, 0, rfl, S4, hD5, hBD5, hS4, kX, hC0, by rw [hit0.out]; exact hIt, hXlt, F0, B5⟩
      case round =>
        clear hD5 hBD5 hS4 kX hC0 hIt hXlt F0 B5 hit0
        obtain ⟨j, hj, rfl, rfl, oq, oc, rfl, S, hD, hBD, hS, kX, hC, hIt, hXlt, F0, hbr⟩ := hrel
        have zr := hbr.size
        have hjn : (j : Int) < 2 + (tot bss : Int) := by have := hN.out; omega
        by_cases hlt : j < f.length
        · have hd : decide (j < f.length) = true := by simpa using hlt
          have hT0 : f.take (j + 1) = f.take j ++ [f.getD j It.no] := by rw [List.take_succ_eq_append_getElem hlt]; simp [List.getD, hlt]
          have hD1 : f.drop (j + 1) = f.getD (j + 1) It.no :: f.drop (j + 2) ∨ f.drop (j + 1) = [] := by
            by_cases h2 : j + 1 < f.length
            · left; rw [List.drop_eq_getElem_cons h2]; simp [List.getD, h2]
            · right; exact List.drop_eq_nil_of_le (by omega)
          have hD2 : (f.drop (j + 1)).getD 0 It.no = f.getD (j + 1) It.no := by simp [List.getD]
          have hD3 : decide (0 < (f.drop (j + 1)).length) = decide (j + 1 < f.length) := by rw [List.length_drop]; exact decide_eq_decide.2 (by omega)
          obtain ⟨x0, x1, xq, xn, xc, x2, xr, xb⟩ := hIt
          rw [hd]
          generalize hit : f.getD j It.no = it at *
          generalize hit1 : f.getD (j + 1) It.no = it1 at *
          replace hit := Lib.hid hit
          replace hit1 := Lib.hid hit1
          replace hT0 := Lib.hid hT0
          replace hD2 := Lib.hid hD2
          replace hD3 := Lib.hid hD3
          replace hd := Lib.hid hd
          clear hD1
          have A6 : Below wr.heap.size wr (wr.alloc (.cells #[.int .i64 (it.skip : Int), .int .u8 (it.kind.toNat : Int), .slice xq xn xc] 42)) := (Below.refl _ _).alloc (Nat.le_refl _) _
          have T6 : Turn (fun _ => False) wr (wr.alloc (.cells #[.int .i64 (it.skip : Int), .int .u8 (it.kind.toNat : Int), .slice xq xn xc] 42)) := Turn.ofBelow A6 rfl
          have hB0r : B0 ≤ wr.heap.size := by omega
          have C6 := hC.turn T6 hXB hB0r (fun _ _ h => h.elim) (fun k hk => Or.inl hk)
          have It6 : ItCells (wr.alloc (.cells #[.int .i64 (it.skip : Int), .int .u8 (it.kind.toNat : Int), .slice xq xn xc] 42)) wr.heap.size 0 it (fun b => ¬ S b ∧ b < B0) :=
            ⟨by simp [go_sem], by simp [go_sem], xq, xn, xc, by simp [go_sem], xr.below A6, fun y hy => ⟨(xb y hy).1, by have := (xb y hy).2; simp; omega⟩⟩
          have D6 := hD.below A6
          have BD6 := (hD.apart hBD T6 (fun _ _ h => h.elim) (fun _ _ h => h)).2
          have fl := hC.fnd.length
          have hbN : (j + 1) * 40 ≤ 140737488355328 := by have := hN.out; omega
          have hbM : j + 1 ≤ maxLen := by unfold maxLen; omega
          have tok1 : True := trivial
          clear fl
          go_wp2_with (at_builtin; have _t := tok1; refine list_append_fnd 55 42 _ 40 infoIt rfl Tryd.underlying55 rfl _ _ rfl rfl C6.fnd (fun k hk hb => by have := C6.off k hk; omega) wr.heap.size 1 rfl it It6 hbN hbM ?_; intro q7 c7 w7 hF7 hT7 hq7; clear tok1)
          have hSl : ∀ k, S k → k < wr.heap.size := fun k hk => hD.lt k hk
          have hz6 : (wr.alloc (.cells #[.int .i64 (it.skip : Int), .int .u8 (it.kind.toNat : Int), .slice xq xn xc] 42)).heap.size = wr.heap.size + 1 := by simp
          have C7 := C6.push (fun k hk => by have := hSl k hk; omega) (by omega) (by omega) hT7 hF7 (fun y hy => (hq7 y hy).imp (fun h => h.1) id) (by have := hF7.le; omega)
          obtain ⟨D7, BD7⟩ := D6.apart BD6 hT7 (fun k hk ht => (C6.off k ht).1) (fun k hk ht => by have := (C6.off k ht).2.2.1; omega)
          have TX : Turn (qblk oq) wr w7 := (T6.mono (fun _ _ h => h.elim)).trans hT7 (fun _ _ h => h)
          have nX : ¬ qblk oq X := fun h => (C6.off X h).2.1 rfl
          have u0 := (TX.cell (p := ⟨X, 0, none⟩) hXlt nX).trans x0
          have u1 := (TX.cell (p := ⟨X, 1, none⟩) hXlt nX).trans x1
          have u2 := (TX.cell (p := ⟨X, 2, none⟩) hXlt nX).trans x2
          have g7 : ∀ o, w7.frozen? ⟨X, o, none⟩ = false := fun o => (TX.frozen (p := ⟨X, o, none⟩) hXlt nX).trans (F0 o)
          have B7 := hbr.trans (TX.below zr (fun x hx hs => by have := (C6.off x hs).2.2.1; have := hB0.out; have := B3.size; omega))
          have z7 := TX.size
          have hX7 : X < w7.heap.size := by omega
          clear x0 x1 x2 xr xb A6 T6 It6 D6 BD6 C6 hF7 hT7 hq7 hC hD hBD F0
          refine (next_any g S _ w7 D7).mono ?_; rintro e w8 ⟨q8, n8, c8, rfl, hR8, hq8, ⟨S8, hD8, t8, n8'⟩, hE8⟩
          obtain ⟨hBD8, hqE8⟩ := hE8 _ BD7
          rw [hD2.out] at hR8 ⊢
          simp only [hD3.out]
          have v0 := (t8.cell (p := ⟨X, 0, none⟩) hX7 kX).trans u0
          have v1 := (t8.cell (p := ⟨X, 1, none⟩) hX7 kX).trans u1
          have v2 := (t8.cell (p := ⟨X, 2, none⟩) hX7 kX).trans u2
          have g8 : ∀ o, w8.frozen? ⟨X, o, none⟩ = false := fun o => (t8.frozen (p := ⟨X, o, none⟩) hX7 kX).trans (g7 o)
          have h80 := g8 0
          have h81 := g8 1
          have h82 := g8 2
          have hS8 : ∀ x, S8 x → w.heap.size ≤ x := fun x hx => (n8' x hx).elim (hS x) (fun h => by omega)
          have kX8 : ¬ S8 X := fun h => (n8' _ h).elim kX (fun h => by omega)
          have T9 : Turn (fun k => k = X) w8 (((w8.setCell ⟨X, 0, none⟩ (.int .i64 (it1.skip : Int))).setCell ⟨X, 1, none⟩ (.int .u8 (it1.kind.toNat : Int))).setCell ⟨X, 2, none⟩ (.slice q8 n8 c8)) :=
            ((Turn.set w8 ⟨X, 0, none⟩ _).trans (Turn.set _ ⟨X, 1, none⟩ _) (fun _ _ h => h)).trans (Turn.set _ ⟨X, 2, none⟩ _) (fun _ _ h => h)
          have hX8 : X < w8.heap.size := Nat.lt_of_lt_of_le hX7 t8.size
          simp only [St.next, List.drop_drop] at hD8 hBD8
          obtain ⟨D9, BD9⟩ := hD8.apart hBD8 T9 (fun k hk e hs => kX8 (e ▸ hs)) (fun k hk e => by omega)
          have C9 : Coll (((w8.setCell ⟨X, 0, none⟩ (.int .i64 (it1.skip : Int))).setCell ⟨X, 1, none⟩ (.int .u8 (it1.kind.toNat : Int))).setCell ⟨X, 2, none⟩ (.slice q8 n8 c8)) S8 X B0 q7 (j + 1) c7 (f.take j ++ [it]) :=
            C7.turn (T := fun k => S k ∨ k = X) (t8.mono (fun _ _ h => Or.inl h) |>.trans T9 (fun _ _ h => Or.inr h)) hXB (by omega) (fun _ _ h => h) (fun k hk => n8' k hk)
          have I9 : ItCells (((w8.setCell ⟨X, 0, none⟩ (.int .i64 (it1.skip : Int))).setCell ⟨X, 1, none⟩ (.int .u8 (it1.kind.toNat : Int))).setCell ⟨X, 2, none⟩ (.slice q8 n8 c8)) X 0 it1 (fun b => ¬ S8 b ∧ b < B0) := by
            refine ⟨by simp [go_sem, v0, v1, v2], by simp [go_sem, v0, v1, v2], q8, n8, c8, by simp [go_sem, v0, v1, v2], hR8.turn T9 (fun y hy e => by have := hqE8 y hy; omega), fun y hy => ⟨⟨fun hs => ?_, hqE8 y hy⟩, ?_⟩⟩
            · exact (n8' _ hs).elim (hq8 y hy).1 (fun h => by have := (hq8 y hy).2; omega)
            · exact Nat.lt_of_lt_of_le (hq8 y hy).2 (Nat.le_trans t8.size T9.size)
          have g9 : ∀ o, (((w8.setCell ⟨X, 0, none⟩ (.int .i64 (it1.skip : Int))).setCell ⟨X, 1, none⟩ (.int .u8 (it1.kind.toNat : Int))).setCell ⟨X, 2, none⟩ (.slice q8 n8 c8)).frozen? ⟨X, o, none⟩ = false := fun o => by simp [go_sem, g8]
          have X9 := Nat.lt_of_lt_of_le hX8 T9.size
          have B9 : Below w.heap.size w (((w8.setCell ⟨X, 0, none⟩ (.int .i64 (it1.skip : Int))).setCell ⟨X, 1, none⟩ (.int .u8 (it1.kind.toNat : Int))).setCell ⟨X, 2, none⟩ (.slice q8 n8 c8)) :=
            B7.trans ((t8.mono (fun _ _ h => Or.inl h) |>.trans (S := fun k => S k ∨ k = X) T9 (fun _ _ h => Or.inr h)).below B7.size (fun k hk h => by have := B3.size; have := hB0.out; rcases h with h | h; (have := hS k h; omega); omega))
          clear T9 D7 BD7 hD8 hBD8 C7 u0 u1 u2 hR8 hE8 g7 TX
          replace D9 := Lib.hid D9; replace BD9 := Lib.hid BD9; replace C9 := Lib.hid C9; replace I9 := Lib.hid I9; replace g9 := Lib.hid g9; replace B9 := Lib.hid B9; replace X9 := Lib.hid X9
          go_wp2_with fail
          go_roundw
          case rel => exact ⟨j + 1, by omega, by go_num, rfl, q7, c7, rfl, S8, D9.out, BD9.out, hS8, kX8, by rw [hT0.out]; exact C9.out, by rw [hit1.out]; exact I9.out, X9.out, g9.out, B9.out⟩
          case measure => simp [intOf] <;> omega
        · have hd : decide (j < f.length) = false := by simpa using hlt
          obtain rfl : j = f.length := by omega
          rw [List.take_length] at hC
          go_wp2_with fail
          go_ret
          exact ⟨oq, _, oc, _, _, rfl, by rw [hits.out]; exact hC.fnd, hbr⟩
end Go.Proofs.YtegbjlimiephlaaDoor
