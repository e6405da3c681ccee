/- (*frame.Decoder).Next: contract; where the bodies lie; a decoder beside other work. -/
import Derived.Test.YtdmpopdacbdnlaaDoorFrG
namespace Go.Proofs.YtdmpopdacbdnlaaDoor
open Go.RowKit
set_option linter.unusedVariables false
set_option linter.unusedSimpArgs false
set_option maxHeartbeats 4000000
set_option maxRecDepth 20000
theorem Fnd.and {w : World} {q : Option Addr} {n c : Nat} {its : List It} {own own2 body body2 : Nat → Prop} (h : Fnd w q n c its own body) (k : Fnd w q n c its own2 body2) : Fnd w q n c its own (fun b => body b ∧ body2 b) := by
  refine ⟨h.length, h.le, h.small, h.nil, ?_⟩
  rcases h.at_ with h0 | ⟨b, off, rfl, ho, hb, hr, hi⟩
  · exact .inl h0
  rcases k.at_ with h0 | ⟨b', off', e, ho', hb', hr', hi'⟩
  · exact .inl h0
  cases e
  refine .inr ⟨b, off, rfl, ho, hb, hr, fun i hin => ?_⟩
  obtain ⟨c0, c1, q, m, cc, c2, hR, hq⟩ := hi i hin
  obtain ⟨_, _, q', m', cc', c2', _, hq'⟩ := hi' i hin
  rw [c2] at c2'
  cases c2'
  exact ⟨c0, c1, q, m, cc, c2, hR, fun y hy => ⟨⟨(hq y hy).1, (hq' y hy).1⟩, (hq y hy).2⟩⟩
/-- The bodies of what was found lie in blocks of E. -/
def BodIn (w : World) (g : Nat) (d : St) (E : Nat → Prop) : Prop := ∀ fq fn fc, w.cell? ⟨g, 2, none⟩ = some (.slice fq fn fc) → Fnd w fq fn fc d.found (fun _ => True) E
theorem BodIn.of {w : World} {g : Nat} {d : St} {E : Nat → Prop} {fq : Option Addr} {fn fc : Nat} (c2 : w.cell? ⟨g, 2, none⟩ = some (.slice fq fn fc)) (h : Fnd w fq fn fc d.found (fun _ => True) E) : BodIn w g d E := by
  intro q n c hc
  rw [c2] at hc
  cases hc
  exact h
theorem Dec.bod {w : World} {g : Nat} {S : Nat → Prop} {d : St} (h : Dec w g S d) : BodIn w g d (fun b => b < w.heap.size) := by
  obtain ⟨rq, rn, rc, fq, fn, fc, hM⟩ := h.m
  exact BodIn.of hM.c2 (hM.fnd.mono (fun _ _ _ => trivial) (fun k hk _ => hk))
theorem bod_first {w : World} {b off fn fc : Nat} {it : It} {its found : List It} {E : Nat → Prop} {q : Option Addr} {n c : Nat} (h : Fnd w (some ⟨b, off, none⟩) fn fc found (fun _ => True) E) (h0 : found = it :: its) (d2 : w.cell? ⟨b, off + 2, none⟩ = some (.slice q n c)) (hl : its.length + 1 = fn) : ∀ y, q = some y → E y.block := by
  have hle := h.le
  rcases h.at_ with hc | ⟨b', off', e, _, _, _, hi⟩
  · omega
  cases e
  obtain ⟨_, _, q', m, cc, c2, _, hq⟩ := hi 0 (by omega)
  rw [Nat.zero_mul, Nat.add_zero, d2] at c2
  cases c2
  exact fun y hy => (hq y hy).1
theorem Dec.apart {w w' : World} {g : Nat} {S T E : Nat → Prop} {d : St} (h : Dec w g S d) (hE : BodIn w g d E) (t : Turn T w w') (hT : ∀ k, k < w.heap.size → T k → ¬ S k) (hTE : ∀ k, E k → ¬ T k) : Dec w' g S d ∧ BodIn w' g d E := by
  obtain ⟨rq, rn, rc, fq, fn, fc, hM⟩ := h.m
  have hg := hM.lt g hM.sg
  have nT : ∀ k, S k → ¬ T k := fun k hk ht => hT k (hM.lt k hk) ht hk
  have ng := nT g hM.sg
  have hF := (hM.fnd.and (hE _ _ _ hM.c2)).turn t (fun x hx _ => nT _ (hM.hf x hx).1) (fun k hk hb => hTE k hb.2)
  refine ⟨DecM.dec ⟨hM.sg, fun k hk => Nat.lt_of_lt_of_le (hM.lt k hk) t.size, (t.cell (p := ⟨g, 0, none⟩) hg ng).trans hM.c0, hM.own.turn t (fun x hx => nT _ (hM.hr x hx).1), (t.cell (p := ⟨g, 2, none⟩) hg ng).trans hM.c2,
    hF.mono (fun _ _ h => h) (fun _ _ h => h.1), hM.hr, hM.hf, (t.cell (p := ⟨g, 1, none⟩) hg ng).trans hM.c1, (t.cell (p := ⟨g, 3, none⟩) hg ng).trans hM.c3,
    (t.frozen (p := ⟨g, 0, none⟩) hg ng).trans hM.f0, (t.frozen (p := ⟨g, 1, none⟩) hg ng).trans hM.f1, (t.frozen (p := ⟨g, 2, none⟩) hg ng).trans hM.f2, (t.frozen (p := ⟨g, 3, none⟩) hg ng).trans hM.f3⟩, ?_⟩
  exact BodIn.of ((t.cell (p := ⟨g, 2, none⟩) hg ng).trans hM.c2) (hF.mono (fun _ _ _ => trivial) (fun _ _ h => h.2))
theorem next_some2 (g : Nat) (S : Nat → Prop) (d : St) (w : World) (h : Dec w g S d) (it : It) (its : List It) (h0 : d.found = it :: its) : Calls Tryd.prog 22 #[.pointer (some ⟨g, 0, none⟩)] w fun e w' => ∃ q n c, e = .returned (.tuple #[.agg #[.int .i64 (it.skip : Int), .int .u8 (it.kind.toNat : Int), .slice q n c], .bool true]) ∧ RowB w' q n c it.body ∧ (∀ y, q = some y → ¬ S y.block ∧ y.block < w.heap.size) ∧ DecTo w w' g S d.next ∧ ∀ E, BodIn w g d E → BodIn w' g d.next E ∧ ∀ y, q = some y → E y.block := by
  obtain ⟨rq, rn, rc, fq, fn, fc, hM⟩ := h.m
  have hg := hM.lt g hM.sg
  have c2 := hM.c2
  have f2 := hM.f2
  have hl := hM.fnd.length
  rw [h0] at hl
  simp at hl
  have hle := hM.fnd.le
  have hsm := hM.fnd.small
  unfold maxLen at hsm
  rcases hM.fnd.at_ with hc0 | ⟨b, off, rfl, hob, hbl, hroom, hit⟩
  · omega
  have i0 := hit 0 (by omega)
  rw [h0] at i0
  simp only [List.getD_cons_zero, Nat.zero_mul, Nat.add_zero] at i0
  obtain ⟨d0, d1, q, n, c, d2, hR, hq⟩ := i0
  have r0 := (hroom 0 (by omega)).2
  have r1 := (hroom 1 (by omega)).2
  have r2 := (hroom 2 (by omega)).2
  rw [Nat.add_zero] at r0
  have hbg : b ≠ g := (hM.hf _ rfl).2.1
  have hn1 : (0 : Int) < (fn : Int) := by omega
  have hn2 : (1 : Int) ≤ (fn : Int) := by omega
  have hn3 : (1 : Int) ≤ (fc : Int) := by omega
  have hzf : (fn == 0) = false := by rw [beq_eq_false_iff_ne]; omega
  have hzi : ((fn : Int) == 0) = false := by rw [beq_eq_false_iff_ne]; omega
  by_cases h1 : fn = 1
  · subst h1
    obtain rfl : its = [] := List.eq_nil_of_length_eq_zero (by omega)
    replace hl := Lib.hid hl
    replace h0 := Lib.hid h0
    clear hit
    by_cases hcc : fc = 1
    · subst hcc
      go_enter Tryd.func22, Tryd.ntmps22
      go_wp2_with fail
      have hTp := popped_turn w b off; have hD1 := next_last hM (.slice (some ⟨b, off, none⟩) 0 0); have hR1 := ((hR.turn hTp (fun y hy e => (hq y hy).1 (e ▸ hob))).turn (Turn.set _ ⟨g, 2, none⟩ (.slice (some ⟨b, off, none⟩) 0 0)) (fun y hy e => (hq y hy).1 (e ▸ hM.sg))).turn (Turn.set _ ⟨g, 2, none⟩ (.slice none 0 0)) (fun y hy e => (hq y hy).1 (e ▸ hM.sg)); have hdn : d.next = ⟨d.rest, d.skips, [], d.over⟩ := (by unfold St.next; rw [h0.out]; rfl); refine bodyPost_ret (v := .tuple #[.agg #[.int .i64 (it.skip : Int), .int .u8 (it.kind.toNat : Int), .slice q n c], .bool true]) (by simp [results, Tryd.results22, go_sem]) rfl ⟨q, n, c, rfl, hR1.below (((Below.refl _ _).alloc (Nat.le_refl _) _).alloc (by simp) _), hq, ?_, fun E hE => ⟨?_, fun y hy => bod_first (hE _ _ _ hM.c2) h0.out d2 hl.out y hy⟩⟩; (rw [hdn]; exact hD1.below (((Below.refl _ _).alloc (Nat.le_refl _) _).alloc (by simp) _)); rw [hdn]; have p2 := (hTp.cell (p := ⟨g, 2, none⟩) hg (fun e => hbg e.symm)).trans hM.c2; refine BodIn.of (fq := none) (fn := 0) (fc := 0) ?_ (Fnd.empty _ _ _); have hs : g < (((popped w b off).setCell ⟨g, 2, none⟩ (.slice (some ⟨b, off, none⟩) 0 0)).setCell ⟨g, 2, none⟩ (.slice none 0 0)).heap.size := Nat.lt_of_lt_of_le (Nat.lt_of_lt_of_le (Nat.lt_of_lt_of_le hg hTp.size) (Turn.set (popped w b off) ⟨g, 2, none⟩ (.slice (some ⟨b, off, none⟩) 0 0)).size) (Turn.set _ ⟨g, 2, none⟩ (.slice none 0 0)).size; exact ((((Below.refl _ _).alloc (Nat.le_refl _) _).alloc (by simp) _ : Below (((popped w b off).setCell ⟨g, 2, none⟩ (.slice (some ⟨b, off, none⟩) 0 0)).setCell ⟨g, 2, none⟩ (.slice none 0 0)).heap.size _ _).cell (p := ⟨g, 2, none⟩) hs).trans (by simp [go_sem, p2])
    · have hc1 : (1 : Int) < (fc : Int) := by omega
      go_enter Tryd.func22, Tryd.ntmps22
      go_wp2_with fail
      have hTp := popped_turn w b off; have hD1 := next_last hM (.slice (some ⟨b, off + 3, none⟩) 0 (fc - 1)); have hR1 := ((hR.turn hTp (fun y hy e => (hq y hy).1 (e ▸ hob))).turn (Turn.set _ ⟨g, 2, none⟩ (.slice (some ⟨b, off + 3, none⟩) 0 (fc - 1))) (fun y hy e => (hq y hy).1 (e ▸ hM.sg))).turn (Turn.set _ ⟨g, 2, none⟩ (.slice none 0 0)) (fun y hy e => (hq y hy).1 (e ▸ hM.sg)); have hdn : d.next = ⟨d.rest, d.skips, [], d.over⟩ := (by unfold St.next; rw [h0.out]; rfl); refine bodyPost_ret (v := .tuple #[.agg #[.int .i64 (it.skip : Int), .int .u8 (it.kind.toNat : Int), .slice q n c], .bool true]) (by simp [results, Tryd.results22, go_sem]) rfl ⟨q, n, c, rfl, hR1.below (((Below.refl _ _).alloc (Nat.le_refl _) _).alloc (by simp) _), hq, ?_, fun E hE => ⟨?_, fun y hy => bod_first (hE _ _ _ hM.c2) h0.out d2 hl.out y hy⟩⟩; (rw [hdn]; exact hD1.below (((Below.refl _ _).alloc (Nat.le_refl _) _).alloc (by simp) _)); rw [hdn]; have p2 := (hTp.cell (p := ⟨g, 2, none⟩) hg (fun e => hbg e.symm)).trans hM.c2; refine BodIn.of (fq := none) (fn := 0) (fc := 0) ?_ (Fnd.empty _ _ _); have hs : g < (((popped w b off).setCell ⟨g, 2, none⟩ (.slice (some ⟨b, off + 3, none⟩) 0 (fc - 1))).setCell ⟨g, 2, none⟩ (.slice none 0 0)).heap.size := Nat.lt_of_lt_of_le (Nat.lt_of_lt_of_le (Nat.lt_of_lt_of_le hg hTp.size) (Turn.set (popped w b off) ⟨g, 2, none⟩ (.slice (some ⟨b, off + 3, none⟩) 0 (fc - 1))).size) (Turn.set _ ⟨g, 2, none⟩ (.slice none 0 0)).size; exact ((((Below.refl _ _).alloc (Nat.le_refl _) _).alloc (by simp) _ : Below (((popped w b off).setCell ⟨g, 2, none⟩ (.slice (some ⟨b, off + 3, none⟩) 0 (fc - 1))).setCell ⟨g, 2, none⟩ (.slice none 0 0)).heap.size _ _).cell (p := ⟨g, 2, none⟩) hs).trans (by simp [go_sem, p2])
  · have hc1 : (1 : Int) < (fc : Int) := by omega
    have hzi2 : ((fn : Int) - 1 == 0) = false := by rw [beq_eq_false_iff_ne]; omega
    have hzf2 : (fn - 1 == 0) = false := by rw [beq_eq_false_iff_ne]; omega
    replace hl := Lib.hid hl
    replace h0 := Lib.hid h0
    clear hit
    go_enter Tryd.func22, Tryd.ntmps22
    go_wp2_with fail
    have hFp := (h0.out ▸ hM.fnd : Fnd w (some ⟨b, off, none⟩) fn fc (it :: its) S (fun k => ¬ S k)).pop (by omega) (fun k hk hn => hn hk)
    have hTp := popped_turn w b off
    have hD1 := hM.setFound (q' := some ⟨b, off + 3, none⟩) (n' := fn - 1) (c' := fc - 1) (its := its) (N := w.heap.size) (hTp.mono (fun k _ e => ⟨_, rfl, e.symm⟩)) ((hFp.mono (fun _ _ h => Or.inl h) (fun k hk h => ⟨h, by have := hTp.size; simpa [popped] using hk⟩))) (fun y hy => by cases hy; exact .inl ⟨_, rfl, rfl⟩) (Nat.le_refl _) (by omega)
    have hR1 := (hR.turn hTp (fun y hy e => (hq y hy).1 (e ▸ hob))).turn (Turn.set _ ⟨g, 2, none⟩ (.slice (some ⟨b, off + 3, none⟩) (fn - 1) (fc - 1))) (fun y hy e => (hq y hy).1 (e ▸ hM.sg))
    have hdn : d.next = ⟨d.rest, d.skips, its, d.over⟩ := by unfold St.next; rw [h0.out]; rfl
    refine bodyPost_ret (v := .tuple #[.agg #[.int .i64 (it.skip : Int), .int .u8 (it.kind.toNat : Int), .slice q n c], .bool true]) (by simp [results, Tryd.results22, go_sem]) rfl ⟨q, n, c, rfl, hR1.below (((Below.refl _ _).alloc (Nat.le_refl _) _).alloc (by simp) _), hq, ?_, fun E hE => ⟨?_, fun y hy => ?_⟩⟩
    · rw [hdn]
      exact hD1.below (((Below.refl _ _).alloc (Nat.le_refl _) _).alloc (by simp) _)
    · rw [hdn]
      have hFE := hE _ _ _ hM.c2
      rw [h0.out] at hFE
      have hFa := ((h0.out ▸ hM.fnd : Fnd w (some ⟨b, off, none⟩) fn fc (it :: its) S (fun k => ¬ S k)).and hFE).pop (by omega) (fun k hk hn => hn.1 hk)
      have hTg := Turn.set (popped w b off) ⟨g, 2, none⟩ (.slice (some ⟨b, off + 3, none⟩) (fn - 1) (fc - 1))
      have hFb := (hFa.turn hTg (fun x hx _ => by cases hx; exact hbg) (fun k _ hk e => hk.1 (e ▸ hM.sg))).turn (Turn.ofBelow (S := fun _ => False) (((Below.refl _ _).alloc (Nat.le_refl _) (.cells #[.int .i64 (it.skip : Int), .int .u8 (it.kind.toNat : Int), .slice q n c] 39)).alloc (by simp) (.cells #[.int .i64 (it.skip : Int), .int .u8 (it.kind.toNat : Int), .slice q n c] 39)) rfl) (fun _ _ _ h => h) (fun _ _ _ h => h)
      have hTp2 := popped_turn w b off
      have p2 := (hTp2.cell (p := ⟨g, 2, none⟩) hg (fun e => hbg e.symm)).trans hM.c2
      have hgp : g < (popped w b off).heap.size := Nat.lt_of_lt_of_le hg hTp2.size
      refine BodIn.of (fq := some ⟨b, off + 3, none⟩) (fn := fn - 1) (fc := fc - 1) ?_ (hFb.mono (fun _ _ _ => trivial) (fun _ _ h => h.2))
      have hs : g < ((popped w b off).setCell ⟨g, 2, none⟩ (.slice (some ⟨b, off + 3, none⟩) (fn - 1) (fc - 1))).heap.size := Nat.lt_of_lt_of_le hgp hTg.size
      exact ((((Below.refl _ _).alloc (Nat.le_refl _) _).alloc (by simp) _ : Below ((popped w b off).setCell ⟨g, 2, none⟩ (.slice (some ⟨b, off + 3, none⟩) (fn - 1) (fc - 1))).heap.size _ _).cell (p := ⟨g, 2, none⟩) hs).trans (by simp [go_sem, p2])
    · exact bod_first (hE _ _ _ hM.c2) h0.out d2 hl.out y hy
theorem next_any (g : Nat) (S : Nat → Prop) (d : St) (w : World) (h : Dec w g S d) : Calls Tryd.prog 22 #[.pointer (some ⟨g, 0, none⟩)] w fun e w' => ∃ q n c, e = .returned (.tuple #[.agg #[.int .i64 ((d.found.getD 0 It.no).skip : Int), .int .u8 ((d.found.getD 0 It.no).kind.toNat : Int), .slice q n c], .bool (decide (0 < d.found.length))]) ∧ RowB w' q n c (d.found.getD 0 It.no).body ∧ (∀ y, q = some y → ¬ S y.block ∧ y.block < w.heap.size) ∧ DecTo w w' g S d.next ∧ ∀ E, BodIn w g d E → BodIn w' g d.next E ∧ ∀ y, q = some y → E y.block := by
  cases hf : d.found with
  | nil =>
    refine (next_empty g S d w h hf).mono ?_
    rintro e w' ⟨rfl, hb⟩
    have hd : d.next = d := by obtain ⟨r, s, f, o⟩ := d; simp only at hf; subst hf; rfl
    refine ⟨none, 0, 0, rfl, ⟨rfl, by decide, Nat.le_refl _, .inl rfl, fun _ => rfl⟩, (fun y e => by cases e), ?_, fun E hE => ⟨?_, fun y e => by cases e⟩⟩
    · rw [hd]
      exact (DecTo.refl h).below hb
    · rw [hd]
      exact (h.apart hE (Turn.ofBelow (S := fun _ => False) hb rfl) (fun _ _ h => h.elim) (fun _ _ h => h)).2
  | cons it its =>
    refine (next_some2 g S d w h it its hf).mono ?_
    rintro e w' ⟨q, n, c, rfl, hR, hq, hD, hE⟩
    exact ⟨q, n, c, rfl, hR, hq, hD, hE⟩
end Go.Proofs.YtdmpopdacbdnlaaDoor
